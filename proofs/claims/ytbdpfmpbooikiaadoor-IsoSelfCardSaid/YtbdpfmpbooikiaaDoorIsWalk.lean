import Derived.Test.YtbdpfmpbooikiaaDoorIsPure
import Derived.Test.YtbdpfmpbooikiaaDoorPIsrx1
import Derived.BigQuiet
import Derived.Deep.QuietTactic
namespace Go.Proofs.YtbdpfmpbooikiaaDoor.IT
open Go Go.RowKit Go.Maps Go.WideMaps Go.Proofs.YtbdpfmpbooikiaaDoor.Mem Go.Proofs.YtbdpfmpbooikiaaDoor.PIsr Go.Proofs.YtbdpfmpbooikiaaDoorW.PrintWords Go.Proofs.YtbdpfmpbooikiaaDoorW.PrintLast Go.Proofs.YtbdpfmpbooikiaaDoorW.PrintMore
open Go.Proofs.YtbdpfmpbooikiaaDoor.IsoR (RenR renR_no renR_bad renR_yes yes ren ren_ev getD_at)
open Go.Proofs.YtbdpfmpbooikiaaDoor.MD (renP renP_len)
attribute [local go_sem high] eqA45
set_option linter.unusedVariables false
set_option linter.unusedSimpArgs false
def IsP (P : List S45) (T : List S57) (Q : List S45) (U : List S57) (num : List Int) (c d : Int) : Prop :=
  c = 0 ∧ yes P num ∧ d = 0 ∧ P.length = Q.length ∧ T.length = U.length ∧ (∀ v, v < P.length → (renP num P P.length).getD v z45 = Q.getD v z45) ∧ ∀ u ∈ U, least u ∈ (T.map (ren num)).map least
theorem renR3 {P : List S45} (T : List S57) {num : List Int} {c : Int} : (RenR P T num c).2.2 = 0 ↔ c = 0 ∧ yes P num := by
  by_cases h0 : c = 0
  · subst h0
    by_cases hy : yes P num
    · rw [renR_yes hy]; exact ⟨fun _ => ⟨rfl, hy⟩, fun _ => rfl⟩
    · rw [renR_bad hy]; exact ⟨fun h => absurd h (by decide), fun h => absurd h.2 hy⟩
  · rw [renR_no h0]; exact ⟨fun h => absurd h h0, fun h => absurd h.1 h0⟩
theorem cell_alloc_ (w : World) (o : Obj) {p : Addr} {v : Value} (h : w.cell? p = some v) : (w.alloc o).cell? p = some v := ((Below.alloc (Below.refl w.heap.size w) (Nat.le_refl _) o).cell (World.block_lt_of_cell? w _ h)).trans h
theorem own_below {w w' : World} {P : Program} {k : TypeId} {R : Value → Option (DataW Unit × List MemPlace)} {b n : Nat} {D : DataW Unit} (h : w.ownsMap P k R b n D) (hb : Below w.heap.size w w') : w'.ownsMap P k R b n D := by
  have hlt := h.lt
  obtain ⟨es, clock, hm, F, hs, hD⟩ := h
  exact ⟨es, clock, (hb.block b hlt).trans hm, F, hs, hD⟩
theorem wf_rot {q : S57} (h : wfT q) : wfT (rot q) := ⟨h.2.1, h.2.2, h.1⟩
theorem wf_least {q : S57} (h : wfT q) : wfT (least q) := by
  unfold least
  split
  · split
    · exact wf_rot (wf_rot h)
    · exact wf_rot h
  · exact h
set_option maxHeartbeats 4000000 in
set_option maxRecDepth 100000 in
theorem is15 (P : List S45) (T : List S57) (Q : List S45) (U : List S57) (num : List Int) (c d : Int) (k : Nat) (hc : iso_Renamed.f k P T num = some (RenR P T num c)) (hd : MR.Told Q U d)
    (hsz : c = 0 → T.length ≤ 1000000 ∧ P.length ≤ 1000000) (hwf : ∀ q ∈ (RenR P T num c).2.1, wfT q) (hwU : d = 0 → ∀ q ∈ U, wfT q) (b : Bool) (hb : b = true ↔ IsP P T Q U num c d) (hU : d = 0 → MR.Single U)
    (A0 A1 A2 A3 A4 : Option Addr) (c0 c1 c2 c3 c4 : Nat) (w : World) (hr0 : Kd.C k45 w A0 P.length P) (hc0 : P.length ≤ c0) (hr1 : Kd.C k57 w A1 T.length T) (hc1 : T.length ≤ c1)
    (hr2 : Kd.C k45 w A2 Q.length Q) (hc2 : Q.length ≤ c2) (hr3 : Kd.C k57 w A3 U.length U) (hc3 : U.length ≤ c3) (hr4 : Kd.C (Kd.int .i64) w A4 num.length num) (hc4 : num.length ≤ c4)
    (hG : Kd.C k57 w (some ⟨0, 0, none⟩) 1 [⟨1, 2, 0⟩]) :
    Calls Tryd.prog 15 #[.agg #[.slice A0 P.length c0, .slice A1 T.length c1], .agg #[.slice A2 Q.length c2, .slice A3 U.length c3], .slice A4 num.length c4] w fun e w' => e = .returned (.bool b) ∧ Below w.heap.size w w' := by
  have hm1 := (Blk.here w 25 #[.slice A0 P.length c0, .slice A1 T.length c1]).alloc (.cells #[.slice A2 Q.length c2, .slice A3 U.length c3] 25 (0, 0))
  have hn1 := Blk.here (w.alloc (.cells #[.slice A0 P.length c0, .slice A1 T.length c1] 25 (0, 0))) 25 #[.slice A2 Q.length c2, .slice A3 U.length c3]
  rw [show (w.alloc (.cells #[.slice A0 P.length c0, .slice A1 T.length c1] 25 (0, 0))).heap.size = w.heap.size + 1 by simp] at hn1
  have hb0 := (Below.refl w.heap.size w).alloc (Nat.le_refl _) (.cells #[.slice A0 P.length c0, .slice A1 T.length c1] 25 (0, 0))
  have hb1 := hb0.alloc hb0.size (.cells #[.slice A2 Q.length c2, .slice A3 U.length c3] 25 (0, 0))
  generalize hR : RenR P T num c = R at hc hwf
  obtain ⟨R1, R2, R3⟩ := R
  have HB := Lib.hid hb
  have HR := Lib.hid hR
  have HU := Lib.hid hU
  have HW := Lib.hid hwf
  have HWU := Lib.hid hwU
  clear hb hR hU hwf hwU
  go_enter Tryd.func15, Tryd.ntmps15
  go_wp2_with fail
  generalize ((w.alloc (.cells #[.slice A0 P.length c0, .slice A1 T.length c1] 25 (0, 0))).alloc (.cells #[.slice A2 Q.length c2, .slice A3 U.length c3] 25 (0, 0))) = w1 at *
  have hC := Lib.hid (iso_Renamed.calls k A0 c0 P A1 c1 T A4 c4 num R1 R2 R3 w1 (Kd.C_below hr0 hb1) hc0 (Kd.C_below hr1 hb1) hc1 (Kd.C_below hr4 hb1) hc4 (Kd.C_below hG hb1) hc)
  have x0 := hm1.cell 0
  have x1 := hm1.cell 1
  go_wp2_with fail
  refine hC.out.mono ?_
  rintro e w2 ⟨v0, v1, rfl, hv0, hv1, hb2⟩
  obtain ⟨B0, e0, rfl⟩ := Kd.R_slice hv0
  obtain ⟨B1, e1, rfl⟩ := Kd.R_slice hv1
  have hbw2 := hb1.trans (hb2.mono hb1.size)
  have hm2 := hm1.below hb2
  have hn2 := hn1.below hb2
  have hCR2 := (Kd.R_reads' hv0).2.2
  have hCX2 := (Kd.R_reads' hv1).2.2
  clear hC x0 x1 hm1 hn1 hb1 hb2 hv0 hv1 hb0
  have hm3 := hm2.alloc (.cells #[.slice B0 R1.length e0, .slice B1 R2.length e1] 25 (0, 0))
  have hn3 := hn2.alloc (.cells #[.slice B0 R1.length e0, .slice B1 R2.length e1] 25 (0, 0))
  have hr3b := Blk.here w2 25 #[.slice B0 R1.length e0, .slice B1 R2.length e1]
  have hbw3 := hbw2.alloc hbw2.size (.cells #[.slice B0 R1.length e0, .slice B1 R2.length e1] 25 (0, 0))
  have hCR3 := Kd.C_alloc hCR2 (.cells #[.slice B0 R1.length e0, .slice B1 R2.length e1] 25 (0, 0))
  have hCX3 := Kd.C_alloc hCX2 (.cells #[.slice B0 R1.length e0, .slice B1 R2.length e1] 25 (0, 0))
  have hs3 : w2.heap.size < (w2.alloc (.cells #[.slice B0 R1.length e0, .slice B1 R2.length e1] 25 (0, 0))).heap.size := by simp
  have hs2 := hbw2.size
  have hl3 := hn2.lt
  clear hm2 hn2 hCR2 hCX2 hbw2
  by_cases h3 : R3 ≠ 0
  · have d3 : (R3 != 0) = true := bne_iff_ne.2 h3
    have hbf : b = false := by
      cases b with
      | false => rfl
      | true =>
        have := HB.out.1 rfl
        have h4 := (renR3 T).2 ⟨this.1, this.2.1⟩
        rw [HR.out] at h4
        exact absurd h4 h3
    subst hbf
    clear HB HR
    go_wp2_with fail
    go_ret
    exact ⟨rfl, hbw3⟩
  have h3' : R3 = 0 := by omega
  clear h3
  subst h3'
  have hcy : c = 0 ∧ yes P num := (renR3 T).1 (by rw [HR.out])
  obtain ⟨rfl, hy⟩ := hcy
  replace hsz := hsz rfl
  have hRR := HR.out
  rw [renR_yes hy] at hRR
  simp only [Prod.mk.injEq, and_true] at hRR
  obtain ⟨hRR1, hRR2⟩ := hRR
  have hl1 : R1.length = P.length := by rw [← hRR1, renP_len]
  have hl2 : R2.length = T.length := by rw [← hRR2, List.length_map]
  replace HR : Hid (renP num P P.length = R1 ∧ T.map (ren num) = R2) := ⟨hRR1, hRR2⟩
  have HY := Lib.hid hy
  clear hRR1 hRR2 hy hc
  have hk1 : (R1.length : Int) ≤ 1000000 := by omega
  have hk2 : (R2.length : Int) ≤ 1000000 := by omega
  replace hl1 := Lib.hid hl1
  replace hl2 := Lib.hid hl2
  have hD := Lib.hid (MC.check28 Q U d hd A2 c2 A3 c3 (w2.alloc (.cells #[.slice B0 R1.length e0, .slice B1 R2.length e1] 25 (0, 0))) (Kd.C_below hr2 hbw3) hc2 (Kd.C_below hr3 hbw3) hc3 (Kd.C_below hG hbw3))
  have x0 := hn3.cell 0
  have x1 := hn3.cell 1
  go_wp2_with fail
  refine hD.out.mono ?_
  rintro e w4 ⟨rfl, hb4⟩
  clear hD x0 x1
  have hm4 := hm3.below hb4
  have hn4 := hn3.below hb4
  have hr4b := hr3b.below hb4
  have hl4 := hr4b.lt
  have hbw4 := hbw3.trans (hb4.mono hbw3.size)
  have hCR4 := Kd.C_below hCR3 hb4
  have hCX4 := Kd.C_below hCX3 hb4
  clear hm3 hn3 hr3b hbw3 hCR3 hCX3 hb4
  have x0 := hm4.cell 0
  have x1 := hm4.cell 1
  have y0 := hn4.cell 0
  have y1 := hn4.cell 1
  by_cases h5 : d ≠ 0
  · have d5 : (d != 0) = true := bne_iff_ne.2 h5
    have hbf : b = false := by
      cases b with
      | false => rfl
      | true => exact absurd (HB.out.1 rfl).2.2.1 h5
    subst hbf
    clear HB HR
    go_wp2_with fail
    go_ret
    exact ⟨rfl, hbw4⟩
  have h5' : d = 0 := by omega
  clear h5
  subst h5'
  by_cases h6 : P.length ≠ Q.length
  · have d6 : ((P.length : Int) != (Q.length : Int)) = true := bne_iff_ne.2 (by omega)
    have hbf : b = false := by
      cases b with
      | false => rfl
      | true => exact absurd (HB.out.1 rfl).2.2.2.1 h6
    subst hbf
    clear HB HR
    go_wp2_with fail
    go_ret
    exact ⟨rfl, hbw4⟩
  have h6' : (P.length : Int) = (Q.length : Int) := by omega
  clear h6
  have d6 : ((P.length : Int) != (Q.length : Int)) = false := by rw [h6']; simp
  replace h6' := Lib.hid h6'
  by_cases h7 : T.length ≠ U.length
  · have d7 : ((T.length : Int) != (U.length : Int)) = true := bne_iff_ne.2 (by omega)
    have hbf : b = false := by
      cases b with
      | false => rfl
      | true => exact absurd (HB.out.1 rfl).2.2.2.2.1 h7
    subst hbf
    clear HB HR
    go_wp2_with fail
    go_ret
    exact ⟨rfl, hbw4⟩
  have h7' : (T.length : Int) = (U.length : Int) := by omega
  clear h7
  have d7 : ((T.length : Int) != (U.length : Int)) = false := by rw [h7']; simp
  replace h7' := Lib.hid h7'
  have z0 := hr4b.cell 0
  have z1 := hr4b.cell 1
  have hmm := @run_makeMap Tryd.prog
  go_wp2_with fail
  clear x0 x1 y0 y1 z0 z1
  go_loopw [51] (fun v wr => ∃ i : Int, v = .int .i64 i ∧ 0 ≤ i ∧ i ≤ R1.length ∧ Below w4.heap.size w4 wr ∧ ∀ j : Nat, j < i.toNat → R1.getD j z45 = Q.getD j z45) (fun v _ => R1.length - (intOf v).toNat)
  case atStart => exact ⟨0, rfl, by omega, by omega, Below.refl _ _, fun j hj => absurd hj (by simp)⟩
  case round =>
    obtain ⟨i, rfl, hi0, hi1, hb5, hall⟩ := hrel
    have hbw5 := hbw4.trans (hb5.mono hbw4.size)
    replace hall := Lib.hid hall
    by_cases hlt : i < R1.length
    · have dl : decide (i < (R1.length : Int)) = true := decide_eq_true hlt
      have hltQ : i < (Q.length : Int) := by have := h6'.out; have := hl1.out; omega
      obtain ⟨ad1, e1, y0, y1, y2⟩ := at_T45 (Kd.C_below hCR4 hb5) i hi0 hlt
      cases e1
      have p1 := eq_true hi0
      have p2 := eq_true hlt
      have p3 := eq_true hltQ
      have hp : rd_T45 R1 i = R1.getD i.toNat z45 := rfl
      have hq : rd_T45 Q i = Q.getD i.toNat z45 := rfl
      obtain ⟨ad2, e2, u0, u1, u2⟩ := at_T45 (Kd.C_below hr2 hbw5) i hi0 hltQ
      cases e2
      generalize rd_T45 R1 i = p at *
      generalize rd_T45 Q i = q at *
      replace hp := Lib.hid hp
      replace hq := Lib.hid hq
      have hs5 := hb5.size
      have zb := Blk.here wr 45 #[.int .i64 p.f0, .int .i64 p.f1, .int .i64 p.f2]
      have nb := (hn4.below hb5).alloc (.cells #[.int .i64 p.f0, .int .i64 p.f1, .int .i64 p.f2] 45 (0, 0))
      have hb6 := hb5.alloc hb5.size (.cells #[.int .i64 p.f0, .int .i64 p.f1, .int .i64 p.f2] 45 (0, 0))
      have v0 := cell_alloc_ wr (.cells #[.int .i64 p.f0, .int .i64 p.f1, .int .i64 p.f2] 45 (0, 0)) u0
      have v1 := cell_alloc_ wr (.cells #[.int .i64 p.f0, .int .i64 p.f1, .int .i64 p.f2] 45 (0, 0)) u1
      have v2 := cell_alloc_ wr (.cells #[.int .i64 p.f0, .int .i64 p.f1, .int .i64 p.f2] 45 (0, 0)) u2
      go_wp2_with fail
      generalize hww : wr.alloc (.cells #[.int .i64 p.f0, .int .i64 p.f1, .int .i64 p.f2] 45 (0, 0)) = w6 at *
      generalize hgg : wr.heap.size = g6 at *
      have z0 := zb.cell 0
      have z1 := zb.cell 1
      have z2 := zb.cell 2
      have n0 := nb.cell 0
      clear y0 y1 y2 u0 u1 u2 hww hgg hb5 hbw5 zb nb
      by_cases he : (p.f0 == q.f0 && (p.f1 == q.f1 && (p.f2 == q.f2))) = true
      · have hpq : p = q := by
          simp only [Bool.and_eq_true, beq_iff_eq] at he
          cases p; cases q; simp only [S45.mk.injEq]; exact he
        subst hpq
        clear he
        go_quiet (fail)
        have hb7 := pw_below_drewN hb6 nq
        generalize w6.drewN nq = w7 at *
        go_wp2_with fail
        go_roundw
        case rel =>
          refine ⟨i + 1, rfl, by omega, by omega, hb7, fun j hj => ?_⟩
          by_cases hj2 : j < i.toNat
          · exact hall.out j hj2
          · have : j = i.toNat := by omega
            subst this
            rw [← hp.out, ← hq.out]
        case measure => simp [intOf]; omega
      · have he' : (p.f0 == q.f0 && (p.f1 == q.f1 && (p.f2 == q.f2))) = false := by simpa using he
        have hbf : b = false := by
          cases b with
          | false => rfl
          | true =>
            have h8 := (HB.out.1 rfl).2.2.2.2.2.1 i.toNat (by have := hl1.out; omega)
            rw [HR.out.1, ← hp.out, ← hq.out] at h8
            exact absurd (by rw [h8]; simp) he
        subst hbf
        clear he
        go_quiet (fail)
        have hb7 := pw_below_drewN hb6 nq
        generalize w6.drewN nq = w7 at *
        go_wp2_with fail
        go_ret
        exact ⟨rfl, hbw4.trans (hb7.mono hbw4.size)⟩
    · obtain rfl : i = R1.length := by omega
      have hall' := hall.out
      rw [Int.toNat_natCast] at hall'
      replace hall := Lib.hid hall'
      clear hall'
      have own2 := World.ownsMap_made (H := Unit) wr Tryd.prog 57 (plainElem Tryd.prog 4)
      have hr6 := (hr4b.below hb5).alloc (.map #[] 0)
      have hn6 := (hn4.below hb5).alloc (.map #[] 0)
      have hb6 := hb5.alloc hb5.size (.map #[] 0)
      have hs6 := hb5.size
      have z1 := hr6.cell 1
      go_wp2_with fail
      generalize wr.alloc (.map #[] 0) = w6 at *
      generalize wr.heap.size = gM at *
      clear z1 hb5 hbw5 hm4 hn4 hr4b
      go_loopw [68] (fun v w7 => ∃ i : Int, v = .int .i64 i ∧ 0 ≤ i ∧ i ≤ R2.length ∧ Below w4.heap.size w4 w7 ∧ Blk w7 w2.heap.size 25 #[.slice B0 R1.length e0, .slice B1 R2.length e1] ∧ Blk w7 (w.heap.size + 1) 25 #[.slice A2 Q.length c2, .slice A3 U.length c3] ∧ ∃ D, w7.ownsMap Tryd.prog 57 (plainElem Tryd.prog 4) gM i.toNat D ∧ Holds D (fun q => decide (q ∈ (R2.take i.toNat).map least))) (fun v _ => R2.length - (intOf v).toNat)
      case atStart => exact ⟨0, rfl, by omega, by omega, hb6, hr6, hn6, _, own2, by simpa using holds_nil⟩
      case round =>
        obtain ⟨i, rfl, hi0, hi1, hb7, hr7, hn7, D, own7, hD⟩ := hrel
        clear hb6 hr6 hn6 own2
        replace hD := Lib.hid hD
        by_cases hlt : i < R2.length
        · have dl : decide (i < (R2.length : Int)) = true := decide_eq_true hlt
          obtain ⟨ad1, e1, y0, y1, y2⟩ := at_T57 (Kd.C_below hCX4 hb7) i hi0 hlt
          cases e1
          have p1 := eq_true hi0
          have p2 := eq_true hlt
          have hp : rd_T57 R2 i = R2.getD i.toNat z57 := rfl
          generalize rd_T57 R2 i = p at *
          replace hp := Lib.hid hp
          have zb := Blk.here wr 57 #[.int .i64 p.f0, .int .i64 p.f1, .int .i64 p.f2]
          have hr8 := hr7.alloc (.cells #[.int .i64 p.f0, .int .i64 p.f1, .int .i64 p.f2] 57 (0, 0))
          have hn8 := hn7.alloc (.cells #[.int .i64 p.f0, .int .i64 p.f1, .int .i64 p.f2] 57 (0, 0))
          have own8 := own7.alloc (.cells #[.int .i64 p.f0, .int .i64 p.f1, .int .i64 p.f2] 57 (0, 0))
          have hb8 := hb7.alloc hb7.size (.cells #[.int .i64 p.f0, .int .i64 p.f1, .int .i64 p.f2] 57 (0, 0))
          clear hb7 hr7 hn7 own7
          go_wp2_with fail
          generalize hww : wr.alloc (.cells #[.int .i64 p.f0, .int .i64 p.f1, .int .i64 p.f2] 57 (0, 0)) = w8 at *
          generalize hgg : wr.heap.size = g8 at *
          have z0 := zb.cell 0
          have z1 := zb.cell 1
          have z2 := zb.cell 2
          clear y0 y1 y2 hww hgg zb
          have hL := Lib.hid (least30 w8 p)
          go_wp2_with fail
          refine hL.out.mono ?_
          rintro e w9 ⟨rfl, hb9⟩
          have hr9 := hr8.below hb9
          have hn9 := hn8.below hb9
          have own9 := own_below own8 hb9
          have hbw9 := hb8.trans (hb9.mono hb8.size)
          have hpm : p ∈ R2 := by rw [hp.out, getD_at R2 _ z57 (by omega)]; exact List.getElem_mem _
          have hwp : wfT (least p) := wf_least (HW.out p hpm)
          have hkl := kT_key hwp
          have hmg := hbw9.size
          clear hL z0 z1 z2 hr8 hn8 own8 hb8 hb9
          replace hpm := Lib.hid hpm
          replace hwp := Lib.hid hwp
          go_wp2_with (first | (at_mapUpdate; refine wpList_mapUpdate_own _ rfl _ _ _ 58 rfl 57 4 lawT Tryd.underlying58 _ gM _ D rfl own9 (by unfold maxLen; omega) _ _ _ rfl rfl hkl _ [] (plainElem_bool Tryd.underlying4 true) ?_; intro w10 own10 hgr10; have hr10 := hr9.grown hgr10 (by intro h; injection h with h; omega); have hn10 := hn9.grown hgr10 (by intro h; injection h with h; omega); have hb10 := hbw9.grown hgr10 hmg (fun j hj => by cases hj; exact hs6)))
          go_roundw
          case rel =>
            refine ⟨i + 1, rfl, by omega, by omega, hb10, hr10, hn10, _, by rw [show (i + 1).toNat = i.toNat + 1 by omega]; exact own10, ?_⟩
            have h11 := holds_put hD.out hwp.out
            have hS : (fun q => decide (q ∈ (R2.take i.toNat).map least) || decide (q = least p)) = (fun q => decide (q ∈ (R2.take (i + 1).toNat).map least)) := by
              funext q
              rw [show (i + 1).toNat = i.toNat + 1 by omega, IsoR.take_next z57 R2 i.toNat (by omega), ← hp.out, List.map_append, Bool.eq_iff_iff]
              simp
            rw [← hS]
            exact h11
          case measure => simp [intOf]; omega
        · obtain rfl : i = R2.length := by omega
          have hD2 := hD.out
          rw [Int.toNat_natCast, List.take_length] at hD2
          have y1 := hn7.cell 1
          clear hD
          replace hD2 := Lib.hid hD2
          have hbw7 := hbw4.trans (hb7.mono hbw4.size)
          have hkU : (U.length : Int) ≤ 1000000 := by have := h7'.out; omega
          go_wp2_with fail
          clear y1 hbw7
          have hlt9 : ((R2.length : Int)).toNat ≤ 1000000 := by omega
          generalize ((R2.length : Int)).toNat = nm at *
          go_loopw [79] (fun v w10 => ∃ i : Int, v = .int .i64 i ∧ 0 ≤ i ∧ i ≤ U.length ∧ Below w4.heap.size w4 w10 ∧ Blk w10 (w.heap.size + 1) 25 #[.slice A2 Q.length c2, .slice A3 U.length c3] ∧ (∀ u ∈ U.take i.toNat, least u ∈ R2.map least) ∧ ∃ D, w10.ownsMap Tryd.prog 57 (plainElem Tryd.prog 4) gM nm D ∧ Holds D (fun q => decide (q ∈ R2.map least) && !decide (q ∈ (U.take i.toNat).map least))) (fun v _ => U.length - (intOf v).toNat)
          case atStart => exact ⟨0, rfl, by omega, by omega, hb7, hn7, by simp, D, own7, by simpa using hD2.out⟩
          case round =>
            clear hn7 own7 hD2 hr7
            obtain ⟨i, rfl, hi0, hi1, hb8, hn8, hin, D, own8, hD⟩ := hrel
            replace hD := Lib.hid hD
            replace hin := Lib.hid hin
            by_cases hlt : i < U.length
            · have dl : decide (i < (U.length : Int)) = true := decide_eq_true hlt
              obtain ⟨ad1, e1, y0, y1, y2⟩ := at_T57 (Kd.C_below hr3 (hbw4.trans (hb8.mono hbw4.size))) i hi0 hlt
              cases e1
              have p1 := eq_true hi0
              have p2 := eq_true hlt
              have hp : rd_T57 U i = U.getD i.toNat z57 := rfl
              generalize rd_T57 U i = p at *
              replace hp := Lib.hid hp
              have zb := Blk.here wr 57 #[.int .i64 p.f0, .int .i64 p.f1, .int .i64 p.f2]
              have hn9 := hn8.alloc (.cells #[.int .i64 p.f0, .int .i64 p.f1, .int .i64 p.f2] 57 (0, 0))
              have own9 := own8.alloc (.cells #[.int .i64 p.f0, .int .i64 p.f1, .int .i64 p.f2] 57 (0, 0))
              have hb9 := hb8.alloc hb8.size (.cells #[.int .i64 p.f0, .int .i64 p.f1, .int .i64 p.f2] 57 (0, 0))
              clear hb8 hn8 own8
              go_wp2_with fail
              generalize hww : wr.alloc (.cells #[.int .i64 p.f0, .int .i64 p.f1, .int .i64 p.f2] 57 (0, 0)) = w9 at *
              generalize hgg : wr.heap.size = g9 at *
              have z0 := zb.cell 0
              have z1 := zb.cell 1
              have z2 := zb.cell 2
              clear y0 y1 y2 hww hgg zb
              have hL := Lib.hid (least30 w9 p)
              go_wp2_with fail
              refine hL.out.mono ?_
              rintro e w11 ⟨rfl, hb11⟩
              have hn11 := hn9.below hb11
              have own11 := own_below own9 hb11
              have hbw11 := hb9.trans (hb11.mono hb9.size)
              have hpm : p ∈ U := by rw [hp.out, getD_at U _ z57 (by omega)]; exact List.getElem_mem _
              have hwp : wfT (least p) := wf_least (HWU.out (by first | trivial | rfl) p hpm)
              have hkl := kT_key hwp
              clear hL z0 z1 z2 hn9 own9 hb9 hb11
              have hn12 := hn11.alloc (.cells #[.int .i64 (least p).f0, .int .i64 (least p).f1, .int .i64 (least p).f2] 57 (0, 0))
              have own12 := own11.alloc (.cells #[.int .i64 (least p).f0, .int .i64 (least p).f1, .int .i64 (least p).f2] 57 (0, 0))
              have hb12 := hbw11.alloc hbw11.size (.cells #[.int .i64 (least p).f0, .int .i64 (least p).f1, .int .i64 (least p).f2] 57 (0, 0))
              have hmg := hb12.size
              have zl := Blk.here w11 57 #[.int .i64 (least p).f0, .int .i64 (least p).f1, .int .i64 (least p).f2]
              have x0 := zl.cell 0
              have x1 := zl.cell 1
              have x2 := zl.cell 2
              have hlook := look_bool own12 hD.out hwp
              clear hn11 own11 hbw11
              replace hpm := Lib.hid hpm
              replace hwp := Lib.hid hwp
              have hdec : (decide (least p ∈ R2.map least) && !decide (least p ∈ (U.take i.toNat).map least)) = decide (least p ∈ R2.map least) := by
                rw [Bool.eq_iff_iff]
                simp only [Bool.and_eq_true, decide_eq_true_eq, Bool.not_eq_true', decide_eq_false_iff_not]
                refine ⟨fun h => h.1, fun h => ⟨h, fun h2 => ?_⟩⟩
                obtain ⟨u, hu, he⟩ := List.mem_map.1 h2
                obtain ⟨j, hj, rfl⟩ := List.getElem_of_mem hu
                rw [List.length_take] at hj
                rw [List.getElem_take] at he
                have hpi : p = U[i.toNat]'(by omega) := by rw [hp.out, getD_at U _ z57 (by omega)]
                have := least_inj (HU.out (by first | trivial | rfl)) (i := j) (j := i.toNat) (by omega) (by omega) (by rw [he, ← hpi])
                omega
              rw [hdec] at hlook
              replace hdec := Lib.hid hdec
              cases hs : decide (least p ∈ R2.map least) with
              | false =>
                rw [hs] at hlook
                have hbf : b = false := by
                  cases b with
                  | false => rfl
                  | true =>
                    have h8 := (HB.out.1 rfl).2.2.2.2.2.2 p hpm.out
                    rw [HR.out.2] at h8
                    exact absurd (decide_eq_true h8) (by rw [hs]; decide)
                subst hbf
                clear HB HR hin hall hD hs
                go_wp2_with fail
                go_ret
                exact ⟨rfl, hbw4.trans (hb12.mono hbw4.size)⟩
              | true =>
                rw [hs] at hlook
                replace hs := Lib.hid hs
                go_wp2_with (first | (at_delete; refine wpList_delete_own _ rfl _ _ 58 57 rfl 4 lawT Tryd.underlying58 _ gM nm D rfl own12 _ _ rfl hkl ?_; intro w13 own13 ht13; have hg13 := ht13.grown; have hn13 := hn12.grown hg13 (by intro h; injection h with h; omega); have hb13 := hb12.grown hg13 hmg (fun j hj => by cases hj; exact hs6)))
                go_roundw
                case rel =>
                  refine ⟨i + 1, rfl, by omega, by omega, hb13, hn13, ?_, _, own13, ?_⟩
                  · rw [show (i + 1).toNat = i.toNat + 1 by omega, IsoR.take_next z57 U i.toNat (by omega), ← hp.out]
                    intro u hu
                    rcases List.mem_append.1 hu with hu | hu
                    · exact hin.out u hu
                    · rw [List.mem_singleton] at hu
                      subst hu
                      exact of_decide_eq_true hs.out
                  · have h11 := holds_del hD.out hwp.out
                    have hS : (fun q => (decide (q ∈ R2.map least) && !decide (q ∈ (U.take i.toNat).map least)) && !decide (q = least p)) = (fun q => decide (q ∈ R2.map least) && !decide (q ∈ (U.take (i + 1).toNat).map least)) := by
                      funext q
                      rw [show (i + 1).toNat = i.toNat + 1 by omega, IsoR.take_next z57 U i.toNat (by omega), ← hp.out, List.map_append, Bool.eq_iff_iff]
                      simp only [Bool.and_eq_true, Bool.not_eq_true', decide_eq_true_eq, decide_eq_false_iff_not, List.mem_append, List.map_cons, List.map_nil, List.mem_singleton, not_or, and_assoc]
                    rw [← hS]
                    exact h11
                case measure => simp [intOf]; omega
            · obtain rfl : i = U.length := by omega
              have hbt : b = true := by
                refine HB.out.2 ⟨rfl, HY.out, rfl, by have := h6'.out; omega, by have := h7'.out; omega, fun v hv => ?_, fun u hu => ?_⟩
                · rw [HR.out.1]
                  exact hall.out v (by rw [hl1.out]; exact hv)
                · have := hin.out u (by rw [Int.toNat_natCast, List.take_length]; exact hu)
                  rw [HR.out.2]
                  exact this
              subst hbt
              clear HB HR hin hall
              go_wp2_with fail
              go_ret
              exact ⟨rfl, hbw4.trans (hb8.mono hbw4.size)⟩
end Go.Proofs.YtbdpfmpbooikiaaDoor.IT
