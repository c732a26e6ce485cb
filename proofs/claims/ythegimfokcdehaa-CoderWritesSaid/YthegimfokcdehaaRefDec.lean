/- lapidaryref06.Decode walked. -/
import Derived.Test.YthegimfokcdehaaCoderStep
import Derived.Test.YthegimfokcdehaaCoderBey
import Derived.Test.YthegimfokcdehaaCoderLaws
namespace Go.Proofs.Ythegimfokcdehaa.CR
open Go Go.RowKit Go.Proofs.Ythegimfokcdehaa.Mem Go.Proofs.Ythegimfokcdehaa.CM Go.Proofs.Ythegimfokcdehaa.PCod Go.Proofs.YthegimfokcdehaaW.PrintWords Go.Proofs.YthegimfokcdehaaW.PrintLast Go.Proofs.YthegimfokcdehaaW.PrintMore
open Go.Proofs.Ythegimfokcdehaa.CW (Sizes freshC fresh_mods kOK unpair decS read_snoc read_none_append)
set_option linter.unusedVariables false
set_option linter.unusedSimpArgs false
def G2 (g : Nat) (v : Value) : Nat → Prop := fun k => k = g ∨ some k = v.ownBlock
theorem kS_at {w : World} {A : Option Addr} {n : Nat} {hs : List Hd} (h : kS.C w A n hs) (k : Int) (h0 : 0 ≤ k) (h1 : k < hs.length) : ∃ ad, A = some ad ∧ w.cell? (ad.add k.toNat) = some (encH (hs.getD k.toNat hd0)) := by
  obtain ⟨h2, h3, h4⟩ := h
  obtain ⟨ad, rfl, hc⟩ := h4 (by omega)
  obtain ⟨c, hcl, hce, hcell⟩ := hc k.toNat (hs.getD k.toNat hd0) (by rw [List.getD_eq_getElem?_getD, List.getElem?_eq_getElem (show k.toNat < hs.length by omega)]; rfl)
  change c = [encH (hs.getD k.toNat hd0)] at hce
  subst hce
  have := hcell 0 (encH (hs.getD k.toNat hd0)) rfl
  rw [show kS.sz = 1 from rfl, Nat.mul_one, Nat.add_zero] at this
  exact ⟨ad, rfl, this⟩
def DInv (B gT : Nat) (w : World) (b : List Int) (C0 : List (List Int)) (ks : List Int) (v11 : Value) (wr : World) : Prop :=
  ∃ t A c A' c' hs xs, CM.read (gR b) (CM.st0 C0) ks = some (xs, t) ∧ Blk wr gT 65 #[.slice A t.C.length c, .slice A' t.L c', .int .i64 t.R] ∧ Keeps wr (G2 gT v11) (fun w => kS.C w A hs.length hs ∧ RowsOf w hs t.C) ∧ Keeps wr (G2 gT v11) (fun w => Kd.C (Kd.int .i64) w A' t.L (digs t.L t.V)) ∧ t.C.length ≤ c ∧ t.L ≤ c' ∧ Kd.R k41 41 wr (gT + 1) (fun _ => True) v11 (xs.map unpair) ∧ Below B w wr
set_option maxHeartbeats 4000000 in
set_option maxRecDepth 100000 in
theorem dec16 (w : World) (A0 A1 A2 : Option Addr) (l0 l1 b : List Int) (c0 c1 c2 : Nat) (hr0 : Kd.C (Kd.int .i64) w A0 l0.length l0) (hc0 : l0.length ≤ c0) (hr1 : Kd.C (Kd.int .i64) w A1 l1.length l1) (hc1 : l1.length ≤ c1) (hr2 : Kd.C (Kd.int .u8) w A2 b.length b) (hc2 : b.length ≤ c2) (hd : Dig b) (hl0 : l0.length ≤ 1000) (hl1 : l1.length ≤ 1000) (hl2 : b.length ≤ 10000) (hw1 : ∀ n ∈ l1, -9223372036854775808 ≤ n ∧ n < 9223372036854775808) :
    Calls Try.prog 16 #[.slice A0 l0.length c0, .slice A1 l1.length c1, .slice A2 b.length c2] w fun e w' => ∃ v, e = .returned (.tuple #[v, .int .i64 (decS l0 l1 b).2]) ∧ Kd.R k41 41 w' w.heap.size (fun _ => True) v (decS l0 l1 b).1 ∧ Below w.heap.size w w' := by
  obtain ⟨C0, bb, hbe, hb1, hb2⟩ := begun_ev l0 hl0
  obtain ⟨k1, hk1⟩ := hbe.rounds
  have HB1 := Lib.hid hb1
  have HB2 := Lib.hid hb2
  have HW1 := Lib.hid hw1
  have HD := Lib.hid hd
  clear hb1 hb2 hw1 hbe hd
  go_enter Try.func16, Try.ntmps16
  go_wp2_with fail
  refine (lapidaryref06_Begun.calls k1 A0 c0 l0 C0 _ _ bb w hr0 hc0 hk1).mono ?_
  rintro e w1 ⟨v0, v1, rfl, hS, hR, hbel⟩
  obtain ⟨A3, c3, rfl, hle2, hC2⟩ := Kd.S_reads hS
  obtain ⟨A4, c4, rfl, hle3, hN3⟩ := Kd.R_reads hR
  obtain ⟨hs, hkS, hRows⟩ := rows_of hC2
  clear hS hR hk1 hr0
  have HR1 := Lib.hid hr1
  have HR2 := Lib.hid hr2
  clear hr1 hr2
  have hB2 := hbel.alloc hbel.size (.cells #[.slice A3 C0.length c3, .slice A4 5 c4, .int .i64 4294967295] 65 (0, 0))
  cases bb with
  | false =>
    have he : decS l0 l1 b = ([], 2) := by unfold decS; exact if_neg (fun h => HB2.out rfl h.1)
    have HE := Lib.hid he
    clear he hkS hRows hC2 hN3
    go_wp2_with fail
    generalize w1.alloc (.cells #[.slice A3 C0.length c3, .slice A4 5 c4, .int .i64 4294967295] 65 (0, 0)) = w2 at *
    go_loopw [10, 9] (fun v v9 wr => ∃ i : Int, v = .int .i64 i ∧ 0 ≤ i ∧ i ≤ l1.length ∧ v9 = .bool false ∧ Below w.heap.size w wr) (fun v _ _ => l1.length - (intOf v).toNat)
    case atStart => exact ⟨0, rfl, by omega, by omega, rfl, hB2⟩
    case round =>
      clear hB2
      obtain ⟨i, rfl, hi0, hi1, rfl, hBw⟩ := hrel
      by_cases hlt : i < l1.length
      · have dl : decide (i < (l1.length : Int)) = true := decide_eq_true hlt
        go_upto_block 1 with fail
        go_cut [9] (fun s9 wx => s9 = .bool false ∧ Below wr.heap.size wr wx)
        case first =>
          go_wp2_with fail
          go_quiet (fail)
          go_wp2_with fail
          go_meet
          exact ⟨rfl, pw_below_drewN (Below.refl _ _) nq⟩
        case rest =>
          obtain ⟨rfl, hb5⟩ := hcut
          go_wp2_with fail
          go_roundw
          case rel => exact ⟨i + 1, rfl, by omega, by omega, rfl, hBw.trans (hb5.mono hBw.size)⟩
          case measure => simp [intOf]; omega
      · obtain rfl : i = l1.length := by omega
        go_wp2_with fail
        go_ret2
        rw [HE.out]
        exact ⟨_, rfl, Kd.R_nil _ _ _ _ _, hBw⟩
  | true =>
    obtain ⟨hCf, hsz0, hsz1⟩ := HB1.out rfl
    have hSz : Sizes l0 := ⟨hsz0, hsz1⟩
    have hMs := fresh_mods hSz.2
    subst hCf
    have hkO := fun k => kOK_iff hMs k
    have hfl0 : (freshC l0).length = l0.length := by unfold freshC; rw [List.length_map]
    have hK1 := Keeps.new (G := G2 w1.heap.size (.slice none 0 0)) (w := w1) (P := fun w => kS.C w A3 hs.length hs ∧ RowsOf w hs (freshC l0)) (fun w'' hb => ⟨Kd.C_below hkS hb, hRows.below hb⟩) (.cells #[.slice A3 (freshR l0).length c3, .slice A4 5 c4, .int .i64 4294967295] 65 (0, 0)) (fun k hk => by rcases hk with hk | hk; exact Nat.le_of_eq hk.symm; cases hk)
    have hK2 := Keeps.new (G := G2 w1.heap.size (.slice none 0 0)) (w := w1) (P := fun w => Kd.C (Kd.int .i64) w A4 5 [0, 0, 0, 0, 0]) (fun w'' hb => Kd.C_below hN3 hb) (.cells #[.slice A3 (freshR l0).length c3, .slice A4 5 c4, .int .i64 4294967295] 65 (0, 0)) (fun k hk => by rcases hk with hk | hk; exact Nat.le_of_eq hk.symm; cases hk)
    have hbT := Blk.here w1 65 #[.slice A3 (freshR l0).length c3, .slice A4 5 c4, .int .i64 4294967295]
    clear hkS hRows hC2 hN3
    go_wp2_with fail
    generalize hgT : w1.heap.size = gT at *
    generalize w1.alloc (.cells #[.slice A3 (freshR l0).length c3, .slice A4 5 c4, .int .i64 4294967295] 65 (0, 0)) = w2 at *
    obtain ⟨B, hBB⟩ : ∃ B, B = w.heap.size := ⟨_, rfl⟩
    have hgB : B ≤ gT := by rw [hBB, ← hgT]; exact hbel.size
    have HBB := Lib.hid hBB
    have HS := Lib.hid hSz
    have HMs := Lib.hid hMs
    have HKO := Lib.hid hkO
    have HFL := Lib.hid hfl0
    have HK1 := Lib.hid hK1
    have HK2 := Lib.hid hK2
    clear hBB hgT hbel hSz hMs HB1 HB2 hkO hfl0 hK1 hK2
    go_loopw [10, 9] (fun v v9 wr => ∃ i : Int, v = .int .i64 i ∧ 0 ≤ i ∧ i ≤ l1.length ∧ v9 = .bool ((l1.take i.toNat).all (kOK l0.length)) ∧ Below w2.heap.size w2 wr) (fun v _ _ => l1.length - (intOf v).toNat)
    case atStart => exact ⟨0, rfl, by omega, by omega, by simp, Below.refl _ _⟩
    case round =>
      obtain ⟨i, rfl, hi0, hi1, rfl, hBw2⟩ := hrel
      have hBw : Below w.heap.size w wr := hB2.trans (hBw2.mono hB2.size)
      have hbt := hbT.below hBw2
      by_cases hlt : i < l1.length
      · have dl : decide (i < (l1.length : Int)) = true := decide_eq_true hlt
        obtain ⟨ad1, e1, y0⟩ := Kd.at_int (Kd.C_below HR1.out hBw.drew) i hi0 hlt
        cases e1
        have p1 := eq_true hi0
        have p2 := eq_true hlt
        have hrd : rd l1 i = l1[i.toNat] := by unfold rd; rw [List.getD_eq_getElem?_getD, List.getElem?_eq_getElem (by omega)]; rfl
        have hall : (l1.take (i + 1).toNat).all (kOK l0.length) = ((l1.take i.toNat).all (kOK l0.length) && kOK l0.length l1[i.toNat]) := by
          rw [show (i + 1).toNat = i.toNat + 1 by omega, List.take_succ_eq_append_getElem (by omega), List.all_append]
          simp
        have hwk := HW1.out l1[i.toNat] (List.getElem_mem _)
        rw [hrd] at y0
        generalize l1[i.toNat] = k at *
        generalize hcur : (l1.take i.toNat).all (kOK l0.length) = cur at *
        have HALL := Lib.hid hall
        clear hrd hall hcur
        cases cur with
        | false =>
          go_upto_block 1 with fail
          go_cut [9] (fun s9 wx => s9 = .bool false ∧ Below wr.heap.size wr wx)
          case first =>
            go_wp2_with fail
            go_quiet (fail)
            go_wp2_with fail
            go_meet
            exact ⟨rfl, pw_below_drewN (Below.refl _ _) nq⟩
          case rest =>
            obtain ⟨rfl, hb5⟩ := hcut
            go_wp2_with fail
            go_roundw
            case rel => exact ⟨i + 1, rfl, by omega, by omega, by rw [HALL.out]; rfl, hBw2.trans (hb5.mono hBw2.size)⟩
            case measure => simp [intOf]; omega
        | true =>
          have x0 : wr.drew.cell? ⟨gT, 0, none⟩ = some (.slice A3 (freshR l0).length c3) := hbt.drew.cell 0
          have x1 : wr.drew.cell? ⟨gT, 1, none⟩ = some (.slice A4 5 c4) := hbt.drew.cell 1
          have x2 : wr.drew.cell? ⟨gT, 2, none⟩ = some (.int .i64 4294967295) := hbt.drew.cell 2
          obtain ⟨k2, hk2⟩ := (whole_ev HMs.out (by rw [HFL.out]; exact hl0) [0, 0, 0, 0, 0] 4294967295 k).rounds
          have hkk := HKO.out k
          rw [HFL.out] at hkk
          have hKr := (HK1.out.below hBw2).now
          have hNr := (HK2.out.below hBw2).now
          have hC2 : Calls Try.prog 36 #[.agg #[.slice A3 (freshR l0).length c3, .slice A4 5 c4, .int .i64 4294967295], .int .i64 k] wr.drew (fun e w' => e = .returned (.int .i64 (whole (freshC l0) k)) ∧ Below wr.drew.heap.size wr.drew w') := (lapidaryref06_whole.calls k2 A3 c3 (freshC l0) A4 c4 [0, 0, 0, 0, 0] 4294967295 k _ wr.drew (Kd.C_drew (of_rows hKr.1 hKr.2)) hle2 (Kd.C_drew hNr) hle3 hk2)
          replace hC2 := Lib.hid hC2
          clear hk2 hKr hNr
          generalize hW : whole (freshC l0) k = W at *
          have HKK := Lib.hid hkk
          clear hkk hW
          by_cases hW0 : 0 < W
          · have dW : decide (W > 0) = true := decide_eq_true hW0
            have dW2 : decide (0 < W) = true := dW
            go_upto_block 1 with fail
            go_cut [9] (fun s9 wx => s9 = .bool true ∧ Below wr.heap.size wr wx)
            case first =>
              go_upto_region 5 with fail
              go_region_with (go_at_call 36; (with_reducible refine hC2.out.mono ?_); rintro e w5 ⟨rfl, hb5⟩)
              all_goals
                go_wp2_with fail
                go_meet
                exact ⟨rfl, ((Below.refl wr.heap.size wr).drew).trans (hb5.mono (Nat.le_refl _))⟩
            case rest =>
              obtain ⟨rfl, hb5⟩ := hcut
              go_wp2_with fail
              go_roundw
              case rel => exact ⟨i + 1, rfl, by omega, by omega, by rw [HALL.out, HKK.out, dW2]; rfl, hBw2.trans (hb5.mono hBw2.size)⟩
              case measure => simp [intOf]; omega
          · have dW : decide (W > 0) = false := decide_eq_false hW0
            have dW2 : decide (0 < W) = false := dW
            go_upto_block 1 with fail
            go_cut [9] (fun s9 wx => s9 = .bool false ∧ Below wr.heap.size wr wx)
            case first =>
              go_upto_region 5 with fail
              go_region_with (go_at_call 36; (with_reducible refine hC2.out.mono ?_); rintro e w5 ⟨rfl, hb5⟩)
              all_goals
                go_wp2_with fail
                go_meet
                exact ⟨rfl, ((Below.refl wr.heap.size wr).drew).trans (hb5.mono (Nat.le_refl _))⟩
            case rest =>
              obtain ⟨rfl, hb5⟩ := hcut
              go_wp2_with fail
              go_roundw
              case rel => exact ⟨i + 1, rfl, by omega, by omega, by rw [HALL.out, HKK.out, dW2]; rfl, hBw2.trans (hb5.mono hBw2.size)⟩
              case measure => simp [intOf]; omega
      · obtain rfl : i = l1.length := by omega
        rw [Int.toNat_natCast, List.take_length]
        cases hfin : l1.all (kOK l0.length) with
        | false =>
          have he : decS l0 l1 b = ([], 2) := by unfold decS; exact if_neg (fun h => by rw [h.2] at hfin; cases hfin)
          have HE := Lib.hid he
          clear he hfin
          go_wp2_with fail
          go_ret2
          rw [HE.out]
          exact ⟨_, rfl, Kd.R_nil _ _ _ _ _, hBw⟩
        | true =>
          have HALL := Lib.hid hfin
          clear hfin
          have hd16 : decide ((l1.length : Int) > 65536) = false := decide_eq_false (by omega)
          have hBr : Below B w wr := by rw [HBB.out]; exact hBw
          have hD0 : DInv B gT w b (freshC l0) (l1.take 0) (.slice none 0 0) wr := ⟨CM.st0 (freshC l0), A3, c3, A4, c4, hs, [], rfl, hbt, HK1.out.below hBw2, HK2.out.below hBw2, hle2, hle3, Kd.R_nil _ _ _ _ _, hBr⟩
          have HD0 := Lib.hid hD0
          clear hbt hbT hBw2 hBw hB2 hD0 HK1 HK2
          go_wp2_with fail
          obtain ⟨wz, hwz⟩ : ∃ wz, wz = wr := ⟨_, rfl⟩
          go_loopw [12, 11] (fun v v11 wr => ∃ i : Int, v = .int .i64 i ∧ 0 ≤ i ∧ i ≤ l1.length ∧ DInv B gT w b (freshC l0) (l1.take i.toNat) v11 wr) (fun v _ _ => l1.length - (intOf v).toNat)
          case atStart => exact ⟨0, rfl, by omega, by omega, HD0.out⟩
          case round =>
            clear HD0 hwz
            obtain ⟨i, rfl, hi0, hi1, t, A, c, A', c', hs2, xs, hread, hbt, hKs, hKn, hlc, hlc', hR11, hBw⟩ := hrel
            obtain ⟨A6, c6, rfl⟩ := Kd.R_slice hR11
            rw [List.length_map] at hR11 hKs hKn ⊢
            have hBw' : Below w.heap.size w wr := by rw [← HBB.out]; exact hBw
            have hrun := read_run _ _ _ _ _ hread
            have hWI := run_within _ (st0_inv HMs.out) hrun.1
            have hI := hWI.inv
            have hLens := run_lens _ hrun.1
            have hCl : t.C.length = l0.length := by
              have := congrArg List.length hLens
              rw [List.length_map, List.length_map] at this
              rw [this]
              exact HFL.out
            have hxl : xs.length = i.toNat := by
              have := congrArg List.length hrun.2
              rw [List.length_map, List.length_take] at this
              omega
            have hLb := run_L _ (st0_inv HMs.out) hrun.1
            have hL5 : (CM.st0 (freshC l0)).L = 5 := rfl
            rw [hL5, hxl] at hLb
            have hr0' := hI.r0
            have hr1' := hI.r1
            by_cases hlt : i < l1.length
            · have dl : decide (i < (l1.length : Int)) = true := decide_eq_true hlt
              obtain ⟨ad1, e1, y0⟩ := Kd.at_int (Kd.C_below HR1.out hBw') i hi0 hlt
              cases e1
              have hY : ∀ W, Below w.heap.size w W → W.cell? (ad1.add i.toNat) = some (.int .i64 (rd l1 i)) := fun W hW => by
                obtain ⟨ad2, e2, y2⟩ := Kd.at_int (Kd.C_below HR1.out hW) i hi0 hlt
                cases e2
                exact y2
              have p1 := eq_true hi0
              have p2 := eq_true hlt
              have hrd : rd l1 i = l1[i.toNat] := by unfold rd; rw [List.getD_eq_getElem?_getD, List.getElem?_eq_getElem (by omega)]; rfl
              have hmem : l1[i.toNat] ∈ l1 := List.getElem_mem _
              have hwk := HW1.out _ hmem
              have hkok := List.all_eq_true.1 HALL.out _ hmem
              have htk : l1.take (i + 1).toNat = l1.take i.toNat ++ [l1[i.toNat]] := by rw [show (i + 1).toNat = i.toNat + 1 by omega, List.take_succ_eq_append_getElem (by omega)]
              have hall : l1 = l1.take i.toNat ++ (l1[i.toNat] :: l1.drop (i.toNat + 1)) := by
                rw [← List.drop_eq_getElem_cons (by omega), List.take_append_drop]
              rw [hrd] at hY
              clear y0
              generalize l1[i.toNat] = k at *
              have hW := CW.kOK_whole hI.mods hCl hkok
              obtain ⟨k3, hk3⟩ := (bey_ev HD.out (digs_dig t.L t.V) (R := t.R) (by omega) hr1' (by omega)).rounds
              rw [digs_length] at hk3
              have HALL2 := Lib.hid hall
              have HTK := Lib.hid htk
              have HREAD := Lib.hid hread
              have HI := Lib.hid hI
              have HY := Lib.hid hY
              have HXL := Lib.hid hxl
              have HCL := Lib.hid hCl
              have hCn : t.C.length ≤ 1000 := by rw [hCl]; exact hl0
              clear hrd hmem htk hall hread hI hrun hLens hWI hY hxl hkok hCl
              generalize hdv : (if b.length < t.L then -1 else bey b (digs t.L t.V) t.R 0) = d at hk3
              have hcal := lapidaryref06_beyond.calls k3 A2 c2 b A' c' (digs t.L t.V) t.R d wr (Kd.C_below HR2.out hBw') hc2 (by rw [digs_length]; exact hKn.now) (by rw [digs_length]; exact hlc') hk3
              rw [digs_length] at hcal
              have HCAL := Lib.hid hcal
              clear hcal hk3
              have x1 : wr.cell? ⟨gT, 1, none⟩ = some (.slice A' t.L c') := hbt.cell 1
              have x2 : wr.cell? ⟨gT, 2, none⟩ = some (.int .i64 t.R) := hbt.cell 2
              by_cases hdn : d < 0
              · have dd : decide (d < 0) = true := decide_eq_true hdn
                have hg : gR b t k = none := by
                  unfold gR
                  by_cases hbl : b.length < t.L
                  · rw [if_pos hbl]
                  · rw [if_neg hbl] at hdv
                    rw [if_neg hbl, hdv, if_pos hdn]
                have he : decS l0 l1 b = ([], 11) := by
                  unfold decS
                  rw [if_pos ⟨HS.out, HALL.out⟩, decode_eq HD.out (gP_right b) (gR_right HD.out) (st0_inv HMs.out) l1]
                  have h0 : CM.read (gR b) (st0 (freshC l0)) l1 = none := by
                    rw [HALL2.out, show l1.take i.toNat ++ (k :: l1.drop (i.toNat + 1)) = (l1.take i.toNat ++ [k]) ++ l1.drop (i.toNat + 1) by simp]
                    refine read_none_append _ _ _ _ ?_
                    rw [read_snoc, HREAD.out, Option.bind_some, hg]
                    rfl
                  unfold CM.decode
                  rw [h0]
                  rfl
                have HE := Lib.hid he
                clear he hg hdv
                go_wp2_with fail
                refine HCAL.out.mono ?_
                rintro e w5 ⟨rfl, hD5⟩
                have hb5 := hD5.below
                go_wp2_with fail
                go_ret2
                rw [HE.out]
                exact ⟨_, rfl, Kd.R_nil _ _ _ _ _, hBw'.trans (hb5.mono hBw'.size)⟩
              · have dd : decide (d < 0) = false := decide_eq_false hdn
                have hbl : ¬ b.length < t.L := fun h => by rw [if_pos h] at hdv; omega
                rw [if_neg hbl] at hdv
                have hdR : d ≤ 2 * t.R := by rw [← hdv]; exact (bey_bound _ _ _ _ (by omega) (by omega) (by omega)).2
                obtain ⟨W, hWe⟩ : ∃ W, W = whole t.C k := ⟨_, rfl⟩
                obtain ⟨Q, hQe⟩ : ∃ Q, Q = t.R / W := ⟨_, rfl⟩
                rw [← hWe] at hW
                obtain ⟨hW0, hW1⟩ := hW
                have hQ256 : 256 ≤ Q := by rw [hQe, Int.le_ediv_iff_mul_le (by omega)]; omega
                have hQR : Q ≤ t.R := by rw [hQe]; exact Int.ediv_le_self _ (by omega)
                have hv0 : 0 ≤ d / Q := Int.ediv_nonneg (by omega) (by omega)
                have hv1 : d / Q ≤ d := Int.ediv_le_self _ (by omega)
                obtain ⟨v, hve⟩ : ∃ v, v = mn (d / Q) (W - 1) := ⟨_, rfl⟩
                have hvb : 0 ≤ v ∧ v < W := by rw [hve]; unfold mn; split <;> omega
                obtain ⟨sv, hsv⟩ : ∃ sv, sv = CM.findS t.C k v := ⟨_, rfl⟩
                have hg : gR b t k = some sv := by
                  unfold gR
                  rw [if_neg hbl, hdv, if_neg hdn, ← hWe, ← hQe, ← hve, hsv]
                obtain ⟨a2, n2, hsh, _, _⟩ := find_some HI.out.mods (k := k) (v := v) (by rw [← hWe]; exact hW0) hvb.1 (by rw [← hWe]; exact hvb.2)
                rw [← hsv] at hsh
                have hss := (share_some HI.out.mods hsh)
                obtain ⟨u, hu⟩ := step_of_share (x := (k, sv)) hsh
                have hrd2 : CM.read (gR b) (st0 (freshC l0)) (l1.take (i + 1).toNat) = some (xs ++ [(k, sv)], u) := by
                  rw [HTK.out, read_snoc, HREAD.out, Option.bind_some]
                  show ((gR b t k).bind fun s => (CM.step t (k, s)).map fun v => (xs ++ [(k, s)], v)) = _
                  rw [hg, Option.bind_some, hu]
                  rfl
                have hkr : k < 0 ∨ (0 ≤ k ∧ k < t.C.length) := by
                  have := hWe
                  unfold whole at this
                  split at this
                  · rename_i h; exact .inl h.1
                  · split at this
                    · rename_i h; exact .inr h
                    · omega
                have hsvb : -9223372036854775808 ≤ sv ∧ sv < 9223372036854775808 := by
                  have := share_bound HI.out.mods hsh
                  omega
                have HU := Lib.hid hu
                have HRD2 := Lib.hid hrd2
                have hC := HI.out.mods
                obtain ⟨k4, hk4⟩ := (whole_ev hC (by omega) (digs t.L t.V) t.R k).rounds
                rw [← hWe] at hk4
                have hwq1 : IntKind.i64.wrap (Int.tdiv t.R W) = Q := by rw [Int.tdiv_eq_ediv_of_nonneg (by omega), ← hQe, i64_w]; exact CR.w64 (x := Q) (by omega) (by omega)
                have hwq2 : wrap64 (Int.tdiv t.R W) = Q := by rw [Int.tdiv_eq_ediv_of_nonneg (by omega), ← hQe]; exact CR.w64 (x := Q) (by omega) (by omega)
                have hwd1 : IntKind.i64.wrap (Int.tdiv d Q) = d / Q := by rw [Int.tdiv_eq_ediv_of_nonneg (by omega), i64_w]; exact CR.w64 (x := d / Q) (by omega) (by omega)
                have hwd2 : wrap64 (Int.tdiv d Q) = d / Q := by rw [Int.tdiv_eq_ediv_of_nonneg (by omega)]; exact CR.w64 (x := d / Q) (by omega) (by omega)
                have hww : wrap64 (W - 1) = W - 1 := CR.w64 (by omega) (by omega)
                have hrow := (hKs.below (Below.refl _ _).drew).now
                have HQE := Lib.hid hQe
                have HVE := Lib.hid hve
                have HSV := Lib.hid hsv
                have HWE := Lib.hid hWe
                have HG := Lib.hid hg
                have HWQ1 := Lib.hid hwq1
                have HWQ2 := Lib.hid hwq2
                have HWD1 := Lib.hid hwd1
                have HWD2 := Lib.hid hwd2
                have HWW := Lib.hid hww
                clear hu hrd2 hg hQe hve hsv hWe hdv hss hsh hwq1 hwq2 hwd1 hwd2 hww hrow
                go_wp2_with fail
                refine HCAL.out.mono ?_
                rintro e w5 ⟨rfl, hD5⟩
                have hb5 := hD5.below
                have hBw5 := hBw'.trans (hb5.mono hBw'.size)
                have hK5 := (hKs.below hb5).now
                have hN5 := (hKn.below hb5).now
                have hcw := lapidaryref06_whole.calls k4 A c t.C A' c' (digs t.L t.V) t.R k W w5.drew (Kd.C_drew (of_rows hK5.1 hK5.2)) hlc (by rw [digs_length]; exact Kd.C_drew hN5) (by rw [digs_length]; exact hlc') hk4
                rw [digs_length] at hcw
                have HCW := Lib.hid hcw
                have hbt5 := hbt.below hb5
                clear hcw hk4 x1 x2 HCAL hK5 hN5
                go_upto_region 17 with fail
                have x0 : w5.drew.cell? ⟨gT, 0, none⟩ = some (.slice A t.C.length c) := hbt5.drew.cell 0
                have x1 : w5.drew.cell? ⟨gT, 1, none⟩ = some (.slice A' t.L c') := hbt5.drew.cell 1
                have x2 : w5.drew.cell? ⟨gT, 2, none⟩ = some (.int .i64 t.R) := hbt5.drew.cell 2
                have y0 := HY.out w5.drew hBw5.drew
                go_cut [14] (fun s14 wx => s14 = .int .i64 W ∧ Below w5.heap.size w5 wx)
                case first =>
                  go_region_with (go_at_call 36; (with_reducible refine HCW.out.mono ?_); rintro e w6 ⟨rfl, hb6⟩)
                  all_goals
                    go_wp2_with fail
                    go_meet
                    exact ⟨rfl, ((Below.refl w5.heap.size w5).drew).trans (hb6.mono (Nat.le_refl _))⟩
                case rest =>
                  obtain ⟨w6, rfl⟩ : ∃ w6 : World, w6 = wc := ⟨_, rfl⟩
                  obtain ⟨rfl, hb6⟩ := hcut
                  clear HCW x0 x1 x2 y0
                  have hb56 := hb5.trans (hb6.mono hb5.size)
                  have hBw6 := hBw'.trans (hb56.mono hBw'.size)
                  have hbt6 := hbt.below hb56
                  have x2 : w6.cell? ⟨gT, 2, none⟩ = some (.int .i64 t.R) := hbt6.cell 2
                  have y0 := HY.out w6 hBw6
                  have y1 := HY.out (w6.alloc (.cells #[.int .i64 k, .int .i64 v] 41 (0, 0))) (hBw6.alloc hBw6.size _)
                  have hxb := Blk.here w6 41 #[.int .i64 k, .int .i64 v]
                  have hb7 := (Below.refl w6.heap.size w6).alloc (Nat.le_refl _) (.cells #[.int .i64 k, .int .i64 v] 41 (0, 0))
                  have hwq1 := HWQ1.out
                  have hwq2 := HWQ2.out
                  have hwd1 := HWD1.out
                  have hwd2 := HWD2.out
                  have hww := HWW.out
                  have hve := HVE.out.symm
                  have hWne : W ≠ 0 := by omega
                  have hWne2 : ¬ W = 0 := by omega
                  have hWne3 : (W == 0) = false := beq_eq_false_iff_ne.2 hWne
                  have hQne : Q ≠ 0 := by omega
                  have hQne2 : ¬ Q = 0 := by omega
                  have hQne3 : (Q == 0) = false := beq_eq_false_iff_ne.2 hQne
                  go_upto_region 18 with fail
                  go_cut [15] (fun s15 wx => s15 = .int .i64 v ∧ wx = w6)
                  case first =>
                    go_wp2_with fail
                    all_goals
                      go_meet
                      refine ⟨?_, rfl⟩
                      rw [HVE.out]
                      unfold mn
                      split <;> first | rfl | (exfalso; omega)
                  case rest =>
                   obtain ⟨rfl, hwc⟩ := hcut
                   rw [hwc]
                   clear hwc
                   clear hve
                   go_upto_if 82 with fail
                   generalize hxbn : w6.heap.size = xb at *
                   generalize w6.alloc (.cells #[.int .i64 k, .int .i64 v] 41 (0, 0)) = w7 at *
                   have hBw7 := hBw'.trans ((hb56.trans (hb7.mono (by rw [← hxbn]; exact hb56.size))).mono hBw'.size)
                   have h67 := hb56.trans (hb7.mono (by rw [← hxbn]; exact hb56.size))
                   clear x2 y0 hwq1 hwq2 hwd1 hwd2 hww hWne hWne2 hWne3 hQne hQne2 hQne3 HWQ1 HWQ2 HWD1 HWD2 HWW
                   go_cut [] (fun wx => Blk wx xb 41 #[.int .i64 k, .int .i64 sv] ∧ Below xb w6 wx)
                   case first =>
                     by_cases hk0 : 0 ≤ k
                     · have dk : decide (k ≥ 0) = true := decide_eq_true hk0
                       have hkl : k < (t.C.length : Int) := by rcases hkr with h | h <;> omega
                       have hK7 := (hKs.below h67.drew).now
                       have hln := hK7.2.1
                       obtain ⟨adA, eA, hA⟩ := kS_at hK7.1 k hk0 (by rw [hln]; exact hkl)
                       subst eA
                       have hrow := hK7.2.2 k.toNat (by omega)
                       have x0 : w7.drew.cell? ⟨gT, 0, none⟩ = some (.slice (some adA) t.C.length c) := (hbt.below h67).drew.cell 0
                       have y1 := HY.out w7.drew hBw7.drew
                       obtain ⟨hk, hhk⟩ : ∃ h, h = hs2.getD k.toNat hd0 := ⟨_, rfl⟩
                       rw [← hhk] at hrow hA
                       obtain ⟨Ak, nk, ck⟩ := hk
                       obtain ⟨hn1', hn2', hn3'⟩ := hrow
                       simp only at hn1' hn2' hn3'
                       subst hn1'
                       change w7.drew.cell? (adA.add k.toNat) = some (.slice Ak (t.C.getD k.toNat []).length ck) at hA
                       obtain ⟨k5, hk5⟩ := (rfind_ev HI.out.mods hk0 hkl hvb.1 (by rw [← HWE.out]; exact hvb.2)).rounds
                       rw [← HSV.out] at hk5
                       have HCF := Lib.hid (lapidaryref05_Find.calls k5 Ak ck (t.C.getD k.toNat []) v sv 0 w7.drew hn3' hn2' hk5)
                       generalize hcl : t.C.getD k.toNat [] = cl at *
                       have q1 := eq_true hk0
                       have q2 := eq_true hkl
                       have Hln := Lib.hid hln
                       clear hk5 hK7 hhk hcl hln
                       go_upto_region 21 with fail
                       go_region_with (go_at_call 38; (with_reducible refine HCF.out.mono ?_); rintro e w8 ⟨rfl, hD8⟩; have hx8 := hxb.drew.below hD8.below; have jx1 := hx8.cell 1; have jf1 := hx8.frozen 1)
                       all_goals
                         go_wp2_with fail
                         go_meet
                         exact ⟨hx8.set_ 1 _, (hb7.drew.trans (hD8.below.mono (by show xb ≤ w7.drew.heap.size; have := hxb.lt; exact Nat.le_of_lt this))).setCell (p := ⟨xb, 1, none⟩) (Nat.le_refl _) _⟩
                     · have dk : decide (k ≥ 0) = false := decide_eq_false (by omega)
                       have hsv2 : sv = v := by rw [HSV.out]; unfold CM.findS; rw [if_pos (by omega)]
                       go_wp2_with fail
                       go_meet
                       rw [hsv2]
                       exact ⟨hxb, hb7⟩
                   case rest =>
                     obtain ⟨w8, rfl⟩ : ∃ w8 : World, w8 = wc := ⟨_, rfl⟩
                     obtain ⟨hxb8, hb8⟩ := hcut
                     have h68 := hb56.trans (hb8.mono (by rw [← hxbn]; exact hb56.size))
                     have hBw8 := hBw'.trans (h68.mono hBw'.size)
                     have hbt8 := hbt.below h68
                     have hK8 := hKs.below h68
                     have hN8 := hKn.below h68
                     have hR8 := Kd.R_below hR11 h68
                     have hSt := step28 w8 A A' c c' t.C (digs t.L t.V) t.R t.V k sv t.L hs2 hK8.now.1 hK8.now.2 hlc (by rw [digs_length]; exact hN8.now) (by rw [digs_length]; exact hlc') rfl HI.out (by omega) (by omega) hwk hsvb
                     rw [digs_length] at hSt
                     have HST := Lib.hid hSt
                     have HR8 := Lib.hid hR8
                     have HK8 := Lib.hid hK8
                     have x0 := hbt8.cell 0
                     have x1 := hbt8.cell 1
                     have x2 := hbt8.cell 2
                     have z0 := hxb8.cell 0
                     have z1 := hxb8.cell 1
                     have hxg : gT ≠ xb := by have := hbt.lt; have := hb56.size; omega
                     have hG8 : ∀ j, G2 gT (.slice A6 xs.length c6) j → j < w8.heap.size := fun j hj => by
                       rcases hj with hj | hj
                       · subst hj; exact hbt8.lt
                       · obtain ⟨inner, hown⟩ := Kd.R_own hR8
                         exact (hown.lt j hj.symm).2
                     clear hxb hb7 hb56 h67 hBw7 y1 hSt hR8 hK8 hN8 hKs hKn hR11
                     go_wp2_with fail
                     refine HST.out.mono ?_
                     rintro e w9 ⟨hb9, hst⟩
                     obtain ⟨Au, cu, Bu, du, hs3, rfl, hkS3, hRows3, hlc3, hCN3, hld3, hK3, hK4⟩ := only_some HU.out hst
                     clear hst HST x0 x1 x2 z0 z1
                     have hbt9 := hbt8.below hb9
                     have x0 := hbt9.cell 0
                     have x1 := hbt9.cell 1
                     have x2 := hbt9.cell 2
                     have f0 := hbt9.frozen 0
                     have f1 := (hbt9.set_ 0 (.slice Au u.C.length cu)).frozen 1
                     have f2 := ((hbt9.set_ 0 (.slice Au u.C.length cu)).set_ 1 (.slice Bu u.L du)).frozen 2
                     have hag := (((Agree.refl w9 (G2 gT (.slice A6 xs.length c6))).setCell (g := gT) (.inl (.inl rfl)) 0 (.slice Au u.C.length cu)).setCell (g := gT) (.inl (.inl rfl)) 1 (.slice Bu u.L du)).setCell (g := gT) (.inl (.inl rfl)) 2 (.int .i64 u.R)
                     have hbt10 := ((hbt9.set_ 0 (.slice Au u.C.length cu)).set_ 1 (.slice Bu u.L du)).set_ 2 (.int .i64 u.R)
                     have hR10 := Kd.R_set (Kd.R_set (Kd.R_set (Kd.R_below HR8.out hb9) hbt9 (by decide) 0 (.slice Au u.C.length cu)) (hbt9.set_ 0 (.slice Au u.C.length cu)) (by decide) 1 (.slice Bu u.L du)) ((hbt9.set_ 0 (.slice Au u.C.length cu)).set_ 1 (.slice Bu u.L du)) (by decide) 2 (.int .i64 u.R)
                     have hxb10 := (((hxb8.below hb9).far (p := ⟨gT, 0, none⟩) (Ne.symm hxg) (.slice Au u.C.length cu)).far (p := ⟨gT, 1, none⟩) (Ne.symm hxg) (.slice Bu u.L du)).far (p := ⟨gT, 2, none⟩) (Ne.symm hxg) (.int .i64 u.R)
                     have hK310 := (hK3 _ hG8 HK8.out).agree hag (fun _ _ h => h)
                     have hK410 := (hK4 _ hG8).agree hag (fun _ _ h => h)
                     have hBw8' : Below B w w8 := by rw [HBB.out]; exact hBw8
                     have hb10 := (((hBw8'.trans (hb9.mono (by rw [HBB.out]; exact hBw8'.size))).setCell (p := ⟨gT, 0, none⟩) hgB (.slice Au u.C.length cu)).setCell (p := ⟨gT, 1, none⟩) hgB (.slice Bu u.L du)).setCell (p := ⟨gT, 2, none⟩) hgB (.int .i64 u.R)
                     go_upto_region 23 with fail
                     generalize ((w9.setCell ⟨gT, 0, none⟩ (.slice Au u.C.length cu)).setCell ⟨gT, 1, none⟩ (.slice Bu u.L du)).setCell ⟨gT, 2, none⟩ (.int .i64 u.R) = w10 at *
                     clear hag x0 x1 x2 f0 f1 f2 hbt9 hbt8 hK3 hK4 hkS3 hRows3 hCN3 hb9 hxb8 hb8 h68 hBw8 hBw8' HR8 HK8 hbt hbt5 hbt6 hb5 hb6 hBw5 hBw6 hD5
                     have v0 := hxb10.cell 0
                     have v1 := hxb10.cell 1
                     have hbs : gT + 1 ≤ w10.heap.size := hbt10.lt
                     have hlA : ((xs.map unpair).length + 1) * 16 ≤ 140737488355328 := by rw [List.length_map, HXL.out]; omega
                     go_wp2_with (first | (at_builtin; go_must (refine Kd.R_append k41 (w0 := w10) (W := w10) (gT + 1) rfl (.tmp 103) (.tmp 105) 23 41 (.agg #[.int .i64 0, .int .i64 0]) 16 rfl Try.underlying23 CW.info41 rfl (by decide) (by decide) _ (xs.map unpair) ⟨k, sv⟩ [.int .i64 k, .int .i64 sv] (fun _ => True) (fun _ => False) rfl rfl ⟨[.int .i64 k], [.int .i64 sv], rfl, rfl, rfl⟩ (fun _ hk => hk.elim) (fun _ _ => trivial) hR10 (Below.refl _ _) hbs hlA ?_); intro v18 w18 hR18 hb18 hg18 hat18))
                     go_roundw
                     case rel =>
                       have hne : some gT ≠ (Value.slice A6 xs.length c6).ownBlock := fun e => by have := Kd.R_base hR10 gT e.symm; omega
                       have hag18 : Agree w10 (G2 gT (.slice A6 xs.length c6)) w18 := ⟨hg18.os, hg18.tape, hg18.output, hg18.size, fun j hj hn => hg18.block j hj (fun e => hn (.inr e))⟩
                       have hG18 : ∀ j, j < w10.heap.size → G2 gT v18 j → G2 gT (.slice A6 xs.length c6) j := fun j hj h => by
                         rcases h with h | h
                         · exact .inl h
                         · rcases hat18 with e | ⟨b18, e, hb⟩
                           · exact .inr (h.trans e)
                           · rw [e] at h; injection h with h; omega
                       refine ⟨i + 1, rfl, by omega, by omega, u, Au, cu, Bu, du, hs3, xs ++ [(k, sv)], HRD2.out, hbt10.grown hg18 hne, hK310.agree hag18 hG18, hK410.agree hag18 hG18, hlc3, hld3, ?_, hb10.trans (hb18.mono (by omega))⟩
                       rw [List.map_append]
                       exact hR18
                     case measure => simp [intOf]; omega
            · obtain rfl : i = l1.length := by omega
              have hr := hread
              rw [Int.toNat_natCast, List.take_length] at hr
              have hdec : CM.decode (gP b) (st0 (freshC l0)) l1 b = if digs t.L t.V = b then some xs else none := by
                rw [decode_eq HD.out (gP_right b) (gR_right HD.out) (st0_inv HMs.out) l1]
                unfold CM.decode
                rw [hr]
                rfl
              have HDEC := Lib.hid hdec
              obtain ⟨k3, hk3⟩ := (digits_ev (digs_dig t.L t.V) (by rw [digs_length]; omega)).rounds
              have hcal := lapidaryref06_digits.calls k3 A' c' (digs t.L t.V) _ wr.drew (by rw [digs_length]; exact Kd.C_drew hKn.now) (by rw [digs_length]; exact hlc') hk3
              rw [digs_length] at hcal
              have HCAL := Lib.hid hcal
              have x1 : wr.drew.cell? ⟨gT, 1, none⟩ = some (.slice A' t.L c') := hbt.drew.cell 1
              have hcv4 := Kd.C_string (P := Try.prog) (A := A2) (c := c2) Try.underlying25 Try.underlying5 Try.underlying9 (Kd.C_below HR2.out hBw'.drew)
              have hgW : w.heap.size ≤ gT + 1 := by have := HBB.out; omega
              generalize hdg : digs t.L t.V = dg at *
              have HDG := Lib.hid hdg
              clear hdec hr hread hrun hLens hWI hI hk3 hcal hxl hdg
              go_upto_region 24 with fail
              go_cut [113] (fun s wx => s = .bool (!((strOfNums dg).toList == (strOfNums b).toList)) ∧ Below wr.heap.size wr wx)
              case first =>
                go_region_with (go_at_call 29; (with_reducible refine HCAL.out.mono ?_); rintro e w6 ⟨v6, rfl, hR6, hb6⟩; obtain ⟨A7, c7, rfl, hc7, hC7⟩ := Kd.R_reads hR6; have hcv3 := Kd.C_string (P := Try.prog) (A := A7) (c := c7) Try.underlying25 Try.underlying5 Try.underlying9 hC7; have hcv5 := Kd.C_string (P := Try.prog) (A := A2) (c := c2) Try.underlying25 Try.underlying5 Try.underlying9 (Kd.C_below HR2.out (hBw'.drew.trans (hb6.mono hBw'.drew.size))))
                all_goals
                  go_wp2_with fail
                  go_meet
                  exact ⟨rfl, ((Below.refl wr.heap.size wr).drew).trans (hb6.mono (Nat.le_refl _))⟩
              case rest =>
                obtain ⟨rfl, hb6⟩ := hcut
                by_cases heq : dg = b
                · have hst : ((strOfNums dg).toList == (strOfNums b).toList) = true := by rw [heq]; exact beq_self_eq_true _
                  rw [hst]
                  have he : decS l0 l1 b = (xs.map unpair, 0) := by
                    unfold decS
                    rw [if_pos ⟨HS.out, HALL.out⟩, HDEC.out, if_pos heq]
                  have HE := Lib.hid he
                  clear he heq hst hcv4 HCAL
                  go_wp2_with fail
                  go_ret2
                  rw [HE.out]
                  refine ⟨_, rfl, ?_, hBw'.trans (hb6.mono hBw'.size)⟩
                  exact Kd.R_lower (Kd.R_below hR11 hb6) hgW
                · have hst : ((strOfNums dg).toList == (strOfNums b).toList) = false := beq_eq_false_iff_ne.2 (fun e => heq (CL.str_inj (by rw [← HDG.out]; exact digs_dig _ _) HD.out (CL.toList_inj e)))
                  rw [hst]
                  have he : decS l0 l1 b = ([], 11) := by
                    unfold decS
                    rw [if_pos ⟨HS.out, HALL.out⟩, HDEC.out, if_neg heq]
                  have HE := Lib.hid he
                  clear he heq hst hcv4 HCAL
                  go_wp2_with fail
                  go_ret2
                  rw [HE.out]
                  exact ⟨_, rfl, Kd.R_nil _ _ _ _ _, hBw'.trans (hb6.mono hBw'.size)⟩
end Go.Proofs.Ythegimfokcdehaa.CR
