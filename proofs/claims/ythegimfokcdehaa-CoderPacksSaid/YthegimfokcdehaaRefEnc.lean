/- lapidaryref06.Encode walked. -/
import Derived.Test.YthegimfokcdehaaCoderStep
import Derived.Test.YthegimfokcdehaaCoderEnc
import Derived.Test.YthegimfokcdehaaCoderBey
namespace Go.Proofs.Ythegimfokcdehaa.CR
open Go Go.RowKit Go.Proofs.Ythegimfokcdehaa.Mem Go.Proofs.Ythegimfokcdehaa.CM Go.Proofs.Ythegimfokcdehaa.PCod Go.Proofs.YthegimfokcdehaaW.PrintWords Go.Proofs.YthegimfokcdehaaW.PrintLast Go.Proofs.YthegimfokcdehaaW.PrintMore
open Go.Proofs.Ythegimfokcdehaa.CW (encS wfC pairs Sizes freshC pairs_take pairs_length run_take_none fresh_mods)
set_option linter.unusedVariables false
set_option linter.unusedSimpArgs false
def EncCut (B gT : Nat) (w : World) (tc : Array Value) (u : St) (s9 : Value) (wx : World) : Prop :=
  ∃ xb Au cu Bu du hs3, s9 = .pointer (some ⟨xb, 0, none⟩) ∧ Below B w wx ∧ xb ≠ gT ∧ Blk wx xb 65 #[.slice Au u.C.length cu, .slice Bu u.L du, .int .i64 u.R] ∧ Blk wx gT 65 tc ∧ Keeps wx (G1 gT) (fun w => kS.C w Au hs3.length hs3 ∧ RowsOf w hs3 u.C) ∧ Keeps wx (G1 gT) (fun w => Kd.C (Kd.int .i64) w Bu u.L (digs u.L u.V)) ∧ u.C.length ≤ cu ∧ u.L ≤ du
theorem EncCut.mk0 {B gT : Nat} {w : World} {tc : Array Value} {u : St} {W5 : World} {Au : Option Addr} {cu : Nat} {Bu : Option Addr} {du : Nat} {hs3 : List Hd} (hB : Below B w W5) (hs : B ≤ W5.heap.size) (hne : W5.heap.size ≠ gT) (hg : Blk W5 gT 65 tc)
    (hK3 : Keeps W5 (G1 gT) (fun w => kS.C w Au hs3.length hs3 ∧ RowsOf w hs3 u.C)) (hK4 : Keeps W5 (G1 gT) (fun w => Kd.C (Kd.int .i64) w Bu u.L (digs u.L u.V))) (hlc : u.C.length ≤ cu) (hld : u.L ≤ du) :
    EncCut B gT w tc u (.pointer (some ⟨W5.heap.size, 0, none⟩)) (W5.alloc (.cells #[.slice Au u.C.length cu, .slice Bu u.L du, .int .i64 u.R] 65 (0, 0))) :=
  ⟨W5.heap.size, Au, cu, Bu, du, hs3, rfl, hB.alloc hs _, hne, Blk.here _ _ _, hg.alloc _, hK3.below (Below.alloc (Below.refl _ _) (Nat.le_refl _) _), hK4.below (Below.alloc (Below.refl _ _) (Nat.le_refl _) _), hlc, hld⟩
theorem EncCut.mk {B gT : Nat} {w : World} {tc : Array Value} {u : St} {W9 : World} {xb : Nat} {Au : Option Addr} {cu : Nat} {Bu : Option Addr} {du : Nat} {hs3 : List Hd} (hB : Below B w W9) (hxB : B ≤ xb) (hne : xb ≠ gT) (hx : Blk W9 xb 65 #[.slice none 0 0, .slice none 0 0, .int .i64 0]) (hg : Blk W9 gT 65 tc)
    (hK3 : Keeps W9 (fun k => k = gT ∨ k = xb) (fun w => kS.C w Au hs3.length hs3 ∧ RowsOf w hs3 u.C)) (hK4 : Keeps W9 (fun k => k = gT ∨ k = xb) (fun w => Kd.C (Kd.int .i64) w Bu u.L (digs u.L u.V))) (hlc : u.C.length ≤ cu) (hld : u.L ≤ du) :
    EncCut B gT w tc u (.pointer (some ⟨xb, 0, none⟩)) (((W9.setCell ⟨xb, 0, none⟩ (.slice Au u.C.length cu)).setCell ⟨xb, 1, none⟩ (.slice Bu u.L du)).setCell ⟨xb, 2, none⟩ (.int .i64 u.R)) := by
  have hag := (((Agree.refl W9 (fun k => k = gT ∨ k = xb)).setCell (g := xb) (.inl (.inr rfl)) 0 (.slice Au u.C.length cu)).setCell (g := xb) (.inl (.inr rfl)) 1 (.slice Bu u.L du)).setCell (g := xb) (.inl (.inr rfl)) 2 (.int .i64 u.R)
  exact ⟨xb, Au, cu, Bu, du, hs3, rfl, ((hB.setCell (p := ⟨xb, 0, none⟩) hxB _).setCell (p := ⟨xb, 1, none⟩) hxB _).setCell (p := ⟨xb, 2, none⟩) hxB _, hne, ((hx.set_ 0 _).set_ 1 _).set_ 2 _, ((hg.far (p := ⟨xb, 0, none⟩) (Ne.symm hne) _).far (p := ⟨xb, 1, none⟩) (Ne.symm hne) _).far (p := ⟨xb, 2, none⟩) (Ne.symm hne) _, hK3.agree hag (fun _ _ h => .inl h), hK4.agree hag (fun _ _ h => .inl h), hlc, hld⟩
set_option maxHeartbeats 4000000 in
set_option maxRecDepth 100000 in
theorem enc13 (w : World) (A0 A1 : Option Addr) (l0 : List Int) (l1 : List S41) (c0 c1 : Nat) (hr0 : Kd.C (Kd.int .i64) w A0 l0.length l0) (hc0 : l0.length ≤ c0) (hr1 : Kd.C k41 w A1 l1.length l1) (hc1 : l1.length ≤ c1) (hl0 : l0.length ≤ 1000) (hl1 : l1.length ≤ 1000) (hw1 : ∀ x ∈ l1, wfC x) :
    Calls Try.prog 13 #[.slice A0 l0.length c0, .slice A1 l1.length c1] w fun e w' => ∃ v, e = .returned (.tuple #[v, .int .i64 (encS l0 l1).2]) ∧ Kd.R (Kd.int .u8) 5 w' w.heap.size (fun _ => True) v (encS l0 l1).1 ∧ Below w.heap.size w w' := by
  obtain ⟨C0, b, hbe, hb1, hb2⟩ := begun_ev l0 hl0
  obtain ⟨k1, hk1⟩ := hbe.rounds
  have HB1 := Lib.hid hb1
  have HB2 := Lib.hid hb2
  have HW1 := Lib.hid hw1
  clear hb1 hb2 hw1 hbe
  go_enter Try.func13, Try.ntmps13
  go_wp2_with fail
  refine (lapidaryref06_Begun.calls k1 A0 c0 l0 C0 _ _ b w hr0 hc0 hk1).mono ?_
  rintro e w1 ⟨v0, v1, rfl, hS, hR, hbel⟩
  obtain ⟨A2, c2, rfl, hle2, hC2⟩ := Kd.S_reads hS
  obtain ⟨A3, c3, rfl, hle3, hN3⟩ := Kd.R_reads hR
  obtain ⟨hs, hkS, hRows⟩ := rows_of hC2
  clear hS hR hk1
  cases b with
  | false =>
    have he : encS l0 l1 = ([], 2) := by unfold encS; exact if_neg (fun h => HB2.out rfl h)
    have HE := Lib.hid he
    clear he
    go_wp2_with fail
    go_ret2
    rw [HE.out]
    exact ⟨_, rfl, Kd.R_nil _ _ _ _ _, hbel.alloc (hbel.size) _⟩
  | true =>
    obtain ⟨hCf, hsz0, hsz1⟩ := HB1.out rfl
    have hSz : Sizes l0 := ⟨hsz0, hsz1⟩
    have hMs := fresh_mods hSz.2
    have hCC : C0 = freshC l0 := hCf
    subst hCC
    have hK1 := Keeps.new (G := G1 w1.heap.size) (w := w1) (P := fun w => kS.C w A2 hs.length hs ∧ RowsOf w hs (freshC l0)) (fun w'' hb => ⟨Kd.C_below hkS hb, hRows.below hb⟩) (.cells #[.slice A2 (freshR l0).length c2, .slice A3 5 c3, .int .i64 4294967295] 65 (0, 0)) (fun k hk => by have : k = w1.heap.size := hk; omega)
    have hK2 := Keeps.new (G := G1 w1.heap.size) (w := w1) (P := fun w => Kd.C (Kd.int .i64) w A3 5 [0, 0, 0, 0, 0]) (fun w'' hb => Kd.C_below hN3 hb) (.cells #[.slice A2 (freshR l0).length c2, .slice A3 5 c3, .int .i64 4294967295] 65 (0, 0)) (fun k hk => by have : k = w1.heap.size := hk; omega)
    have hbT := Blk.here w1 65 #[.slice A2 (freshR l0).length c2, .slice A3 5 c3, .int .i64 4294967295]
    have hB2 := hbel.alloc hbel.size (.cells #[.slice A2 (freshR l0).length c2, .slice A3 5 c3, .int .i64 4294967295] 65 (0, 0))
    clear hkS hRows hC2 hN3
    go_wp2_with fail
    generalize hgT : w1.heap.size = gT at *
    generalize w1.alloc (.cells #[.slice A2 (freshR l0).length c2, .slice A3 5 c3, .int .i64 4294967295] 65 (0, 0)) = w2 at *
    obtain ⟨B, hBB⟩ : ∃ B, B = w.heap.size := ⟨_, rfl⟩
    have hgB : B ≤ gT := by rw [hBB, ← hgT]; exact hbel.size
    rw [← hBB] at hB2
    have hBle : B ≤ w.heap.size := by omega
    have HBB := Lib.hid hBB
    have HR1 := Lib.hid hr1
    have HS := Lib.hid hSz
    have HMs := Lib.hid hMs
    clear hBB hr1 hr0 hgT hbel hSz hMs hCf HB1 HB2
    go_loopw [8] (fun v8 wr => ∃ i : Int, v8 = .int .i64 i ∧ 0 ≤ i ∧ i ≤ l1.length ∧ Below B w wr ∧ ∃ t A c A' c' hs, Blk wr gT 65 #[.slice A t.C.length c, .slice A' t.L c', .int .i64 t.R] ∧ Hid (CM.run (CM.st0 (freshC l0)) (pairs (l1.take i.toNat)) = some t) ∧ Keeps wr (G1 gT) (fun w => kS.C w A hs.length hs ∧ RowsOf w hs t.C) ∧ Keeps wr (G1 gT) (fun w => Kd.C (Kd.int .i64) w A' t.L (digs t.L t.V)) ∧ t.C.length ≤ c ∧ t.L ≤ c') (fun v _ => l1.length - (intOf v).toNat)
    case atStart => exact ⟨0, rfl, by omega, by omega, hB2, CM.st0 (freshC l0), A2, c2, A3, c3, hs, hbT, Lib.hid (by rfl), hK1, hK2, hle2, hle3⟩
    case round =>
      clear hB2 hbT hK1 hK2 hle2 hle3
      obtain ⟨i, rfl, hi0, hi1, hBw, t, A, c, A', c', hs2, hbt, hrun, hKs, hKn, hlc, hlc'⟩ := hrel
      have hBw' : Below w.heap.size w wr := by rw [← HBB.out]; exact hBw
      by_cases hlt : i < l1.length
      · have dl : decide (i < (l1.length : Int)) = true := decide_eq_true hlt
        obtain ⟨ad1, e1, y0, y1⟩ := at_T41 (Kd.C_below HR1.out hBw'.drew) i hi0 hlt
        cases e1
        obtain ⟨ad2, e2, y0b, y1b⟩ := at_T41 (Kd.C_below HR1.out (hBw'.trans ((((Below.refl wr.heap.size wr).alloc (Nat.le_refl _) (.cells #[.slice none 0 0, .slice none 0 0, .int .i64 0] 65 (0, 0))).drew).mono hBw'.size))) i hi0 hlt
        cases e2
        have p1 := eq_true hi0
        have p2 := eq_true hlt
        have hI := (run_within _ (st0_inv HMs.out) hrun.out).inv
        have hfl : (freshC l0).length ≤ 1000 := by unfold freshC; rw [List.length_map]; exact hl0
        have hCl : t.C.length ≤ 1000 := by
          have := congrArg List.length (run_lens _ hrun.out)
          rw [List.length_map, List.length_map] at this
          rw [this]
          exact hfl
        have hLb := run_L _ (st0_inv HMs.out) hrun.out
        rw [pairs_length, List.length_take] at hLb
        have hL5 : (CM.st0 (freshC l0)).L = 5 := rfl
        have hL9 : t.L ≤ 50000 := by rw [hL5] at hLb; omega
        have htk := pairs_take l1 (k := i.toNat) (by omega)
        have hnone := fun hs => run_take_none (l := l1) (k := i.toNat) (by omega) hrun.out hs
        rw [show ((i.toNat : Nat) : Int) = i by omega] at htk hnone
        have hwf : wfC (rd_T41 l1 i) := HW1.out _ (by unfold rd_T41; rw [List.getD_eq_getElem?_getD, List.getElem?_eq_getElem (by omega)]; exact List.getElem_mem _)
        have htn : (i + 1).toNat = i.toNat + 1 := by omega
        generalize hf0 : (rd_T41 l1 i).f0 = f0 at *
        generalize hf1 : (rd_T41 l1 i).f1 = f1 at *
        have hk0 : -9223372036854775808 ≤ f0 ∧ f0 < 9223372036854775808 := by rw [← hf0]; exact ⟨hwf.1, hwf.2.1⟩
        have hk1 : -9223372036854775808 ≤ f1 ∧ f1 < 9223372036854775808 := by rw [← hf1]; exact ⟨hwf.2.2.1, hwf.2.2.2⟩
        have HTK := Lib.hid htk
        have HNONE := Lib.hid hnone
        have HTN := Lib.hid htn
        have HI := Lib.hid hI
        clear hf0 hf1 hwf htk hnone htn hI
        obtain ⟨tC, tR, tV, tL⟩ := t
        have hBz := ((Below.refl wr.heap.size wr).alloc (Nat.le_refl _) (.cells #[.slice none 0 0, .slice none 0 0, .int .i64 0] 65 (0, 0))).drew
        have hKz := hKs.below hBz
        have hNz := hKn.below hBz
        have hBw2 := hBw'.trans (hBz.mono hBw'.size)
        have hSt := step28 wr.drew A A' c c' tC (digs tL tV) tR tV f0 f1 tL hs2 (Kd.C_drew hKs.now.1) (hKs.now.2.below (Below.refl _ _).drew) hlc (by rw [digs_length]; exact Kd.C_drew hKn.now) (by rw [digs_length]; exact hlc') rfl HI.out hCl hL9 hk0 hk1
        rw [digs_length] at hSt
        have HST := Lib.hid hSt
        have hSt2 := step28 (wr.alloc (.cells #[.slice none 0 0, .slice none 0 0, .int .i64 0] 65 (0, 0))).drew A A' c c' tC (digs tL tV) tR tV f0 f1 tL hs2 hKz.now.1 hKz.now.2 hlc (by rw [digs_length]; exact hNz.now) (by rw [digs_length]; exact hlc') rfl HI.out hCl hL9 hk0 hk1
        rw [digs_length] at hSt2
        have HST2 := Lib.hid hSt2
        clear hSt hSt2
        have hbz : Blk (wr.alloc (.cells #[.slice none 0 0, .slice none 0 0, .int .i64 0] 65 (0, 0))).drew gT 65 #[.slice A tC.length c, .slice A' tL c', .int .i64 tR] := hbt.below hBz
        have hxz : Blk (wr.alloc (.cells #[.slice none 0 0, .slice none 0 0, .int .i64 0] 65 (0, 0))).drew wr.heap.size 65 #[.slice none 0 0, .slice none 0 0, .int .i64 0] := (Blk.here wr 65 _).drew
        have x0 : wr.drew.cell? ⟨gT, 0, none⟩ = some (.slice A tC.length c) := hbt.drew.cell 0
        have x1 : wr.drew.cell? ⟨gT, 1, none⟩ = some (.slice A' tL c') := hbt.drew.cell 1
        have x2 : wr.drew.cell? ⟨gT, 2, none⟩ = some (.int .i64 tR) := hbt.drew.cell 2
        have x0b := hbz.cell 0
        have x1b := hbz.cell 1
        have x2b := hbz.cell 2
        have hKG := hKs.agree (Agree.of_below (G1 gT) hBz (fun _ h1 h2 => absurd h2 (by omega))) (G' := fun k => k = gT ∨ k = wr.heap.size) (fun j hj h => by rcases h with h | h; exact h; omega)
        have HKG := Lib.hid hKG
        clear hKz hNz hKG
        go_upto_region 7 with fail
        go_cut [9, 10] (fun s9 s10 wx => (s10 = .bool false ∧ Below w.heap.size w wx ∧ CM.step ⟨tC, tR, tV, tL⟩ (f0, f1) = none) ∨ ∃ u, s10 = .bool true ∧ CM.step ⟨tC, tR, tV, tL⟩ (f0, f1) = some u ∧ EncCut w.heap.size gT w #[.slice A tC.length c, .slice A' tL c', .int .i64 tR] u s9 wx)
        case first =>
          have Hbt := Lib.hid hbt
          have Hbz := Lib.hid hbz
          have Hxz := Lib.hid hxz
          clear hbt hbz hxz
          cases hsp : CM.step ⟨tC, tR, tV, tL⟩ (f0, f1) with
          | none =>
            have HSP := Lib.hid hsp
            clear hsp
            go_region_with (first | (go_at_call 28; (with_reducible refine HST.out.mono ?_); rintro e w5 ⟨hb5, hst⟩; obtain ⟨hno, a5, a51, a52, b5, b51, b52, r5, rfl⟩ := only_none HSP.out hst; clear hst hno; have hBw5 := hBw'.drew.trans (hb5.mono hBw'.drew.size); have b9 := Blk.here w5 65 #[.slice none 0 0, .slice none 0 0, .int .i64 0]; have x90 := b9.cell 0; have x91 := b9.cell 1; have x92 := b9.cell 2; have z0 := b9.frozen 0; have z1 := (b9.set_ 0 (.slice a5 a51 a52)).frozen 1; have z2 := ((b9.set_ 0 (.slice a5 a51 a52)).set_ 1 (.slice b5 b51 b52)).frozen 2; clear b9) | (go_at_call 28; (with_reducible refine HST2.out.mono ?_); rintro e w5 ⟨hb5, hst⟩; obtain ⟨hno, a5, a51, a52, b5, b51, b52, r5, rfl⟩ := only_none HSP.out hst; clear hst hno; have hBw5 := hBw2.trans (hb5.mono hBw2.size); have b9 := Hxz.out.below hb5; have x90 := b9.cell 0; have x91 := b9.cell 1; have x92 := b9.cell 2; have z0 := b9.frozen 0; have z1 := (b9.set_ 0 (.slice a5 a51 a52)).frozen 1; have z2 := ((b9.set_ 0 (.slice a5 a51 a52)).set_ 1 (.slice b5 b51 b52)).frozen 2; clear b9))
            all_goals
              go_wp2_with fail
              go_meet
              first
              | exact .inl ⟨rfl, hBw5.alloc hBw5.size _, HSP.out⟩
              | exact .inl ⟨rfl, ((hBw5.setCell (p := ⟨wr.heap.size, 0, none⟩) hBw'.size _).setCell (p := ⟨wr.heap.size, 1, none⟩) hBw'.size _).setCell (p := ⟨wr.heap.size, 2, none⟩) hBw'.size _, HSP.out⟩
          | some u =>
            have HSP := Lib.hid hsp
            clear hsp
            go_region_with (first | (go_at_call 28; (with_reducible refine HST.out.mono ?_); rintro e w5 ⟨hb5, hst⟩; obtain ⟨Au, cu, Bu, du, hs3, rfl, hq⟩ := only_some HSP.out hst; clear hst; have HS5 := Lib.hid hq; clear hq; have hBw5 := hBw'.drew.trans (hb5.mono hBw'.drew.size); have b9 := Blk.here w5 65 #[.slice none 0 0, .slice none 0 0, .int .i64 0]; have x90 := b9.cell 0; have x91 := b9.cell 1; have x92 := b9.cell 2; have z0 := b9.frozen 0; have z1 := (b9.set_ 0 (.slice Au u.C.length cu)).frozen 1; have z2 := ((b9.set_ 0 (.slice Au u.C.length cu)).set_ 1 (.slice Bu u.L du)).frozen 2; clear b9) | (go_at_call 28; (with_reducible refine HST2.out.mono ?_); rintro e w5 ⟨hb5, hst⟩; obtain ⟨Au, cu, Bu, du, hs3, rfl, hq⟩ := only_some HSP.out hst; clear hst; have HS5 := Lib.hid hq; clear hq; have hBw5 := hBw2.trans (hb5.mono hBw2.size); have b9 := Hxz.out.below hb5; have x90 := b9.cell 0; have x91 := b9.cell 1; have x92 := b9.cell 2; have z0 := b9.frozen 0; have z1 := (b9.set_ 0 (.slice Au u.C.length cu)).frozen 1; have z2 := ((b9.set_ 0 (.slice Au u.C.length cu)).set_ 1 (.slice Bu u.L du)).frozen 2; clear b9))
            all_goals
              go_wp2_with fail
              go_meet
              obtain ⟨hkS3, hRows3, hlc3, hCN3, hld3, hK3, hK4⟩ := HS5.out
              have hlt := Hbt.out.lt
              refine .inr ⟨u, rfl, HSP.out, ?_⟩
              first
              | exact EncCut.mk0 hBw5 hBw5.size (by have := hb5.size; show w5.heap.size ≠ gT; have h2 : wr.drew.heap.size = wr.heap.size := rfl; omega) (Hbt.out.drew.below hb5) (hK3 (G1 gT) (fun k hk => by have : k = gT := hk; subst this; exact hlt) (hKs.below (Below.refl _ _).drew)) (hK4 (G1 gT) (fun k hk => by have : k = gT := hk; subst this; exact hlt)) hlc3 hld3
              | exact EncCut.mk hBw5 hBw'.size (by omega) (Hxz.out.below hb5) (Hbz.out.below hb5) (hK3 (fun k => k = gT ∨ k = wr.heap.size) (fun k hk => by have h1 := Hbz.out.lt; have h2 := Hxz.out.lt; rcases hk with hk | hk <;> (subst hk; assumption)) HKG.out) (hK4 (fun k => k = gT ∨ k = wr.heap.size) (fun k hk => by have h1 := Hbz.out.lt; have h2 := Hxz.out.lt; rcases hk with hk | hk <;> (subst hk; assumption))) hlc3 hld3
        case rest =>
          clear x0 x1 x2 y0 y1 x0b x1b x2b y0b y1b hbz hxz HKG HST HST2
          obtain ⟨wx, rfl⟩ : ∃ wx : World, wx = wc := ⟨_, rfl⟩
          rcases hcut with ⟨rfl, hBx, hsp⟩ | ⟨u, rfl, hsp, xb, Au, cu, Bu, du, hs3, rfl, hBx, hxg, hbX, hbG, hK3, hK4, hlc3, hld3⟩
          · have he : encS l0 l1 = ([], 2) := by unfold encS; rw [if_pos HS.out, HNONE.out hsp]
            have HE := Lib.hid he
            clear he hsp
            go_wp2_with fail
            go_ret2
            rw [HE.out]
            exact ⟨_, rfl, Kd.R_nil _ _ _ _ _, hBx⟩
          · have HSP := Lib.hid hsp
            clear hsp
            have x0 := hbX.cell 0
            have x1 := hbX.cell 1
            have x2 := hbX.cell 2
            have y0 := hbG.cell 0
            have y1 := hbG.cell 1
            have y2 := hbG.cell 2
            have z0 := hbG.frozen 0
            have z1 := (hbG.set_ 0 (.slice Au u.C.length cu)).frozen 1
            have z2 := ((hbG.set_ 0 (.slice Au u.C.length cu)).set_ 1 (.slice Bu u.L du)).frozen 2
            go_wp2_with fail
            go_roundw
            case rel =>
              have hag := (((Agree.refl wx (G1 gT)).setCell (g := gT) (.inl rfl) 0 (.slice Au u.C.length cu)).setCell (g := gT) (.inl rfl) 1 (.slice Bu u.L du)).setCell (g := gT) (.inl rfl) 2 (.int .i64 u.R)
              have hBx' : Below B w wx := by rw [HBB.out]; exact hBx
              refine ⟨i + 1, rfl, by omega, by omega, ((hBx'.setCell (p := ⟨gT, 0, none⟩) hgB _).setCell (p := ⟨gT, 1, none⟩) hgB _).setCell (p := ⟨gT, 2, none⟩) hgB _, u, Au, cu, Bu, du, hs3, ((hbG.set_ 0 _).set_ 1 _).set_ 2 _, Lib.hid ?_, hK3.agree hag (fun _ _ h => h), hK4.agree hag (fun _ _ h => h), hlc3, hld3⟩
              rw [HTN.out, HTK.out, run_snoc, hrun.out]
              exact HSP.out
            case measure => simp [intOf]; omega
      · obtain rfl : i = l1.length := by omega
        have hL := run_L _ (st0_inv HMs.out) hrun.out
        have hr := hrun.out
        rw [Int.toNat_natCast, List.take_length] at hr
        rw [pairs_length, List.length_take] at hL
        have hL5 : (CM.st0 (freshC l0)).L = 5 := rfl
        rw [hL5] at hL
        obtain ⟨k3, hk3⟩ := (digits_ev (digs_dig t.L t.V) (by rw [digs_length]; omega)).rounds
        have he : encS l0 l1 = (digs t.L t.V, 0) := by unfold encS; rw [if_pos HS.out, hr]
        have HE := Lib.hid he
        have hrd := Lib.hid hKn.now
        have x1 : wr.cell? ⟨gT, 1, none⟩ = some (.slice A' t.L c') := hbt.cell 1
        clear he hr hrun hKs hKn
        go_wp2_with fail
        have hcal := lapidaryref06_digits.calls k3 A' c' (digs t.L t.V) _ wr (by rw [digs_length]; exact hrd.out) (by rw [digs_length]; exact hlc') hk3
        rw [digs_length] at hcal
        refine hcal.mono ?_
        rintro e w6 ⟨v6, rfl, hR6, hb6⟩
        go_wp2_with fail
        go_ret2
        rw [HE.out]
        exact ⟨v6, rfl, Kd.R_lower hR6 hBw'.size, hBw'.trans (hb6.mono hBw'.size)⟩
end Go.Proofs.Ythegimfokcdehaa.CR
