import Derived.Test.YtckemiefcdpofaaDoorCompact
import Derived.Test.YtckemiefcdpofaaDoorCheckStub
import Derived.BigQuiet
namespace Go.Proofs.YtckemiefcdpofaaDoor.ED
open Go Go.RowKit Go.Lib Go.Sort Go.Proofs.YtckemiefcdpofaaDoor.OR Go.Proofs.YtckemiefcdpofaaDoor.Mem Go.Proofs.YtckemiefcdpofaaDoor.PMsr Go.Proofs.YtckemiefcdpofaaDoorW.PrintWords Go.Proofs.YtckemiefcdpofaaDoorW.PrintLast Go.Proofs.YtckemiefcdpofaaDoorW.PrintMore
attribute [local go_sem] max2_int min2_int
set_option linter.unusedVariables false
set_option linter.unnecessarySimpa false
set_option linter.unusedSimpArgs false
set_option maxRecDepth 100000
def ed (a b : Int) : Int × Int := (min a b, max a b)
def edU (q : S36) : List (Int × Int) := [ed q.f0 q.f1, ed q.f1 q.f2, ed q.f2 q.f0]
def raw (T : List S36) : List (Int × Int) := T.flatMap edU
theorem raw_next (T : List S36) (i : Nat) (hi : i < T.length) : raw (T.take (i + 1)) = raw (T.take i) ++ edU (T.getD i z36) := by
  unfold raw
  rw [List.take_succ_eq_append_getElem hi, List.flatMap_append, List.getD_eq_getElem?_getD, List.getElem?_eq_getElem hi]
  simp
theorem raw_len (T : List S36) : (raw T).length = 3 * T.length := by
  unfold raw
  induction T with
  | nil => rfl
  | cons q T ih => rw [List.flatMap_cons, List.length_append, ih]; simp [edU]; omega
def edgesOf (T : List S36) : List (Int × Int) := comp (sorted (raw T)) (sorted (raw T)).length
theorem sorted_len (l : List (Int × Int)) : (sorted l).length = l.length := by unfold sorted; exact List.length_mergeSort _
set_option maxHeartbeats 4000000 in
theorem edges16 (P : List S55) (T : List S36) (r : Int) (ht : MR.Told P T r) (A0 : Option Addr) (c0 : Nat) (A1 : Option Addr) (c1 : Nat) (w : World) (hr0 : Kd.C k55 w A0 P.length P) (hc0 : P.length ≤ c0) (hr1 : Kd.C k36 w A1 T.length T) (hc1 : T.length ≤ c1) (hG : MM.Gl w) :
    Calls Tryd.prog 16 #[.agg #[.slice A0 P.length c0, .slice A1 T.length c1]] w fun e w' => ∃ v, e = .returned (.tuple #[v, .int .i64 r]) ∧ (r ≠ 0 → v = .slice none 0 0) ∧ (r = 0 → Kd.R k52 52 w' w.heap.size (fun _ => True) v (edgesOf T)) ∧ Below w.heap.size w w' := by
  have hm1 := Blk.here w 25 #[.slice A0 P.length c0, .slice A1 T.length c1]
  have hb1 := (Below.refl w.heap.size w).alloc (Nat.le_refl _) (.cells #[.slice A0 P.length c0, .slice A1 T.length c1] 25 (0, 0))
  have x0 := hm1.cell 0
  have x1 := hm1.cell 1
  have hC := Lib.hid (MC.check28 P T r ht A0 c0 A1 c1 (w.alloc (.cells #[.slice A0 P.length c0, .slice A1 T.length c1] 25 (0, 0))) (Kd.C_alloc hr0 _) hc0 (Kd.C_alloc hr1 _) hc1 (hG.alloc _))
  have HT := Lib.hid ht
  clear ht
  go_enter Tryd.func16, Tryd.ntmps16
  go_wp2_with fail
  refine hC.out.mono ?_
  rintro e w2 ⟨rfl, hb2⟩
  clear hC x0 x1
  have hm2 := hm1.below hb2
  have hbw2 := hb1.trans (hb2.mono hb1.size)
  have x1 := hm2.cell 1
  clear hm1 hb1 hb2
  by_cases h0 : r ≠ 0
  · have d0 : (r != 0) = true := bne_iff_ne.2 h0
    go_wp2_with fail
    go_ret2
    exact ⟨_, rfl, fun _ => rfl, fun h => absurd h h0, hbw2⟩
  have h0' : r = 0 := by omega
  subst h0'
  clear h0
  have hT8 : (T.length : Int) ≤ 8000 := by
    cases HT.out with
    | ok h _ _ _ => omega
  go_wp2_with fail
  clear x1
  go_loopw [19, 5] (fun v v5 wr => ∃ i : Int, v = .int .i64 i ∧ 0 ≤ i ∧ i ≤ T.length ∧ Below w2.heap.size w2 wr ∧ Kd.R k52 52 wr w2.heap.size (fun _ => True) v5 (raw (T.take i.toNat))) (fun v _ _ => T.length - (intOf v).toNat)
  case atStart => exact ⟨0, rfl, by omega, by omega, Below.refl _ _, by simpa [raw] using Kd.R_nil k52 52 w2 w2.heap.size (fun _ => True)⟩
  case round =>
    obtain ⟨i, rfl, hi0, hi1, hb3, hR⟩ := hrel
    have hbw3 := hbw2.trans (hb3.mono hbw2.size)
    by_cases hlt : i < T.length
    · have dl : decide (i < (T.length : Int)) = true := decide_eq_true hlt
      obtain ⟨ad1, e1, y0, y1, y2⟩ := at_T36 (Kd.C_below hr1 hbw3) i hi0 hlt
      cases e1
      have p1 := eq_true hi0
      have p2 := eq_true hlt
      have hq : rd_T36 T i = T.getD i.toNat z36 := rfl
      generalize rd_T36 T i = q at *
      replace hq := Lib.hid hq
      obtain ⟨l0, hl0⟩ : ∃ l, l = raw (T.take i.toNat) := ⟨_, rfl⟩
      rw [← hl0] at hR
      have hll : l0.length = 3 * i.toNat := by rw [hl0, raw_len, List.length_take]; omega
      replace hl0 := Lib.hid hl0
      replace hll := Lib.hid hll
      have zb := Blk.here wr 36 #[.int .i64 q.f0, .int .i64 q.f1, .int .i64 q.f2]
      have hb4 := hb3.alloc hb3.size (.cells #[.int .i64 q.f0, .int .i64 q.f1, .int .i64 q.f2] 36 (0, 0))
      have hR4 := Kd.R_alloc hR (.cells #[.int .i64 q.f0, .int .i64 q.f1, .int .i64 q.f2] 36 (0, 0))
      clear hR
      go_wp2_with fail
      generalize hww : wr.alloc (.cells #[.int .i64 q.f0, .int .i64 q.f1, .int .i64 q.f2] 36 (0, 0)) = w4 at *
      generalize hgg : wr.heap.size = gt at *
      clear y0 y1 y2 hww hgg hbw3 hb3
      go_loopw [23, 5] (fun v v5 w5 => Below w2.heap.size w2 w5 ∧ Blk w5 gt 36 #[.int .i64 q.f0, .int .i64 q.f1, .int .i64 q.f2] ∧ ((v = .int .i64 0 ∧ Kd.R k52 52 w5 w2.heap.size (fun _ => True) v5 l0) ∨ (v = .int .i64 1 ∧ Kd.R k52 52 w5 w2.heap.size (fun _ => True) v5 (l0 ++ [ed q.f0 q.f1])) ∨ (v = .int .i64 2 ∧ Kd.R k52 52 w5 w2.heap.size (fun _ => True) v5 (l0 ++ [ed q.f0 q.f1] ++ [ed q.f1 q.f2])) ∨ (v = .int .i64 3 ∧ Kd.R k52 52 w5 w2.heap.size (fun _ => True) v5 (l0 ++ [ed q.f0 q.f1] ++ [ed q.f1 q.f2] ++ [ed q.f2 q.f0])))) (fun v _ _ => 3 - (intOf v).toNat)
      case atStart => exact ⟨hb4, zb, .inl ⟨rfl, hR4⟩⟩
      case round =>
        clear hb4 hR4 zb
        obtain ⟨hb5, zb5, ⟨rfl, hR5⟩ | ⟨rfl, hR5⟩ | ⟨rfl, hR5⟩ | ⟨rfl, hR5⟩⟩ := hrel
        · have t0 := zb5.cell 0
          have t1 := zb5.cell 1
          obtain ⟨A6, c6, rfl⟩ := Kd.R_slice hR5
          have hlen := Lib.hid (show (l0).length = 3 * i.toNat + 0 by have := hll.out; simp; omega)
          go_wp2_with fail
          go_quiet (fail)
          have hb6 := pw_below_drewN hb5 nq
          have zb6 := zb5.drewN nq
          have hR6 := Kd.R_drewN hR5 nq
          generalize wr.drewN nq = w6 at *
          clear t0 t1 hb5 zb5 hR5
          have hB := Blk.here w6 52 #[.int .i64 (min q.f0 q.f1), .int .i64 (max q.f0 q.f1)]
          have hbs := hb6.size
          have hne := Kd.R_ne hR6 zb6 (by decide)
          go_wp2_with (first | (at_builtin; go_must (refine Kd.R_append k52 (w0 := w6) (W := w6) w2.heap.size rfl (.tmp 34) (.tmp 42) 31 52 (.agg #[.int .i64 0, .int .i64 0]) 16 rfl Tryd.underlying31 info52 rfl (by decide) (by decide) (.slice A6 l0.length c6) l0 (ed q.f0 q.f1) [.int .i64 (min q.f0 q.f1), .int .i64 (max q.f0 q.f1)] (fun _ => True) (fun _ => False) rfl rfl (k52_mkM _ _ _ _) (fun _ hk => hk.elim) (fun _ _ => trivial) hR6 (Below.refl _ _) hbs (by rw [hlen.out]; omega) ?_); intro v18 w18 hR18 hb18 hg18 hat18))
          go_roundw
          case rel => exact ⟨hb6.trans hb18, zb6.grown hg18 hne, .inr (.inl ⟨rfl, hR18⟩)⟩
          case measure => simp [intOf]
        · have t0 := zb5.cell 1
          have t1 := zb5.cell 2
          obtain ⟨A6, c6, rfl⟩ := Kd.R_slice hR5
          have hlen := Lib.hid (show (l0 ++ [ed q.f0 q.f1]).length = 3 * i.toNat + 1 by have := hll.out; simp; omega)
          go_wp2_with fail
          go_quiet (fail)
          have hb6 := pw_below_drewN hb5 nq
          have zb6 := zb5.drewN nq
          have hR6 := Kd.R_drewN hR5 nq
          generalize wr.drewN nq = w6 at *
          clear t0 t1 hb5 zb5 hR5
          have hB := Blk.here w6 52 #[.int .i64 (min q.f1 q.f2), .int .i64 (max q.f1 q.f2)]
          have hbs := hb6.size
          have hne := Kd.R_ne hR6 zb6 (by decide)
          go_wp2_with (first | (at_builtin; go_must (refine Kd.R_append k52 (w0 := w6) (W := w6) w2.heap.size rfl (.tmp 34) (.tmp 42) 31 52 (.agg #[.int .i64 0, .int .i64 0]) 16 rfl Tryd.underlying31 info52 rfl (by decide) (by decide) (.slice A6 (l0 ++ [ed q.f0 q.f1]).length c6) (l0 ++ [ed q.f0 q.f1]) (ed q.f1 q.f2) [.int .i64 (min q.f1 q.f2), .int .i64 (max q.f1 q.f2)] (fun _ => True) (fun _ => False) rfl rfl (k52_mkM _ _ _ _) (fun _ hk => hk.elim) (fun _ _ => trivial) hR6 (Below.refl _ _) hbs (by rw [hlen.out]; omega) ?_); intro v18 w18 hR18 hb18 hg18 hat18))
          go_roundw
          case rel => exact ⟨hb6.trans hb18, zb6.grown hg18 hne, .inr (.inr (.inl ⟨rfl, hR18⟩))⟩
          case measure => simp [intOf]
        · have t0 := zb5.cell 2
          have t1 := zb5.cell 0
          obtain ⟨A6, c6, rfl⟩ := Kd.R_slice hR5
          have hlen := Lib.hid (show (l0 ++ [ed q.f0 q.f1] ++ [ed q.f1 q.f2]).length = 3 * i.toNat + 2 by have := hll.out; simp; omega)
          go_wp2_with fail
          go_quiet (fail)
          have hb6 := pw_below_drewN hb5 nq
          have zb6 := zb5.drewN nq
          have hR6 := Kd.R_drewN hR5 nq
          generalize wr.drewN nq = w6 at *
          clear t0 t1 hb5 zb5 hR5
          have hB := Blk.here w6 52 #[.int .i64 (min q.f2 q.f0), .int .i64 (max q.f2 q.f0)]
          have hbs := hb6.size
          have hne := Kd.R_ne hR6 zb6 (by decide)
          go_wp2_with (first | (at_builtin; go_must (refine Kd.R_append k52 (w0 := w6) (W := w6) w2.heap.size rfl (.tmp 34) (.tmp 42) 31 52 (.agg #[.int .i64 0, .int .i64 0]) 16 rfl Tryd.underlying31 info52 rfl (by decide) (by decide) (.slice A6 (l0 ++ [ed q.f0 q.f1] ++ [ed q.f1 q.f2]).length c6) (l0 ++ [ed q.f0 q.f1] ++ [ed q.f1 q.f2]) (ed q.f2 q.f0) [.int .i64 (min q.f2 q.f0), .int .i64 (max q.f2 q.f0)] (fun _ => True) (fun _ => False) rfl rfl (k52_mkM _ _ _ _) (fun _ hk => hk.elim) (fun _ _ => trivial) hR6 (Below.refl _ _) hbs (by rw [hlen.out]; omega) ?_); intro v18 w18 hR18 hb18 hg18 hat18))
          go_roundw
          case rel => exact ⟨hb6.trans hb18, zb6.grown hg18 hne, .inr (.inr (.inr (⟨rfl, hR18⟩)))⟩
          case measure => simp [intOf]
        · go_wp2_with fail
          go_roundw
          case rel =>
            refine ⟨i + 1, rfl, by omega, by omega, hb5, ?_⟩
            rw [show (i + 1).toNat = i.toNat + 1 by omega, raw_next T i.toNat (by omega), ← hq.out, ← hl0.out]
            simpa [edU] using hR5
          case measure => simp [intOf]; omega
    · obtain rfl : i = T.length := by omega
      have hR2 : Kd.R k52 52 wr w2.heap.size (fun _ => True) u5 (raw T) := by
        have := hR
        rwa [Int.toNat_natCast, List.take_length] at this
      clear hR
      by_cases hT0 : T.length = 0
      · have hT : T = [] := List.eq_nil_of_length_eq_zero hT0
        obtain ⟨A6, c6, rfl⟩ := Kd.R_slice hR2
        have hn : (raw T).length = 0 := by rw [raw_len]; omega
        rw [hn] at hR2 ⊢
        have hS := Lib.hid (sort35_none A6 c6 (.func (.func 36) #[] #[]) wr)
        have hC := Lib.hid (compact0 wr A6 c6)
        have hw := hbw2.size
        have hraw : edgesOf T = raw T := by
          have h1 : raw T = [] := List.eq_nil_of_length_eq_zero hn
          unfold edgesOf
          rw [h1]
          simp [sorted, comp]
        replace hraw := Lib.hid hraw
        replace hR2 := Lib.hid hR2
        clear hT
        go_wp2_with fail
        refine hS.out.mono ?_
        rintro e w5 ⟨rfl, rfl⟩
        go_wp2_with fail
        refine hC.out.mono ?_
        rintro e w6 ⟨rfl, rfl⟩
        go_wp2_with fail
        go_ret2
        exact ⟨.slice A6 0 c6, rfl, by rw [hraw.out]; exact Kd.R_lower hR2.out hw, hbw3⟩
      · have hlen : (raw T).length = 3 * T.length := raw_len T
        obtain ⟨g, cap, rfl, hg, _, hrow⟩ := rowE_of hR2 (by omega)
        have hS := sort35 g 0 cap (raw T).toArray wr (holds_of hrow) (by obtain ⟨cur, hc, _⟩ := hrow; exact Blk.lt (w := wr) (t := 52) (cs := cur) hc) (by simp; omega)
        rw [show (raw T).toArray.size = (raw T).length by simp, show (raw T).toArray.toList = raw T by simp] at hS
        replace hS := Lib.hid hS
        have hw := hbw2.size
        have hrowH := Lib.hid hrow
        have hsl := sorted_len (raw T)
        obtain ⟨n0, hn0⟩ : ∃ n0, n0 = (raw T).length := ⟨_, rfl⟩
        rw [← hn0] at hS ⊢
        replace hlen := Lib.hid hlen
        replace hn0 := Lib.hid hn0
        replace hsl := Lib.hid hsl
        clear hrow hR2
        go_wp2_with fail
        refine hS.out.mono ?_
        rintro e w5 ⟨rfl, nq, os, rfl⟩
        have hrow5 := sorted_row hrowH.out (sorted (raw T)) hsl.out nq os
        have hb5 := sorted_below (w := wr) (g := g) (base := w2.heap.size) hg hb3.size (sorted (raw T)) nq os
        generalize sortWorldK encE 2 wr g 0 nq (sorted (raw T)).toArray os = w5 at *
        have hC := compact37 w5 g cap w2.heap.size (sorted (raw T)) hrow5 (by rw [hsl.out, hlen.out]; omega) hg
        rw [hsl.out, ← hn0.out] at hC
        replace hC := Lib.hid hC
        clear hrow5
        go_wp2_with fail
        refine hC.out.mono ?_
        rintro e w6 ⟨rfl, hrow6, hb6⟩
        replace hrow6 := Lib.hid hrow6
        go_wp2_with fail
        go_ret2
        refine ⟨.slice (some ⟨g, 0, none⟩) (comp (sorted (raw T)) n0).length cap, rfl, ?_, (hbw3.trans (hb5.mono hw)).trans (hb6.mono hw)⟩
        have e1 : edgesOf T = comp (sorted (raw T)) n0 := by unfold edgesOf; rw [hsl.out, ← hn0.out]
        rw [e1]
        exact Kd.R_lower (rowE_to hrow6.out hg trivial) hw
end Go.Proofs.YtckemiefcdpofaaDoor.ED
