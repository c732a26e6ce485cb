/- The coder walked: code, end. -/
import Derived.Test.YthegimfokcdehaaCoderWalk4
namespace Go.Proofs.Ythegimfokcdehaa.CW
open Go Go.RowKit Go.Proofs.Ythegimfokcdehaa.Mem Go.Proofs.Ythegimfokcdehaa.CM Go.Proofs.Ythegimfokcdehaa.MW Go.Proofs.Ythegimfokcdehaa.PCod Go.Proofs.YthegimfokcdehaaW.PrintWords Go.Proofs.YthegimfokcdehaaW.PrintLast Go.Proofs.YthegimfokcdehaaW.PrintMore
set_option linter.unusedVariables false
set_option linter.unusedSimpArgs false
set_option maxHeartbeats 2000000 in
set_option maxRecDepth 100000 in
theorem code_none (w : World) (g B : Nat) (mv ov : Value) (R c l : Int) (o : List Int) (h : Nat) (ps : List (Nat × Nat)) (C : List (List Int)) (k s : Int) (h0 : -9223372036854775808 ≤ k) (h1 : k < 9223372036854775808) (hE : IsE w g mv R ov o c h l) (hM : IsMs w B mv ps C) (hMs : Mods C) (hl : C.length ≤ 1000) (hsh : share C k s = none) :
    Calls Try.prog 24 #[.pointer (some ⟨g, 0, none⟩), .agg #[.int .i64 k, .int .i64 s]] w fun e w' => e = .returned (.tuple #[.int .i64 0, .bool false]) ∧ Below w.heap.size w w' := by
  have hB := (Below.refl w.heap.size w).alloc (Nat.le_refl _) (.cells #[.int .i64 k, .int .i64 s] 41 (0, 0))
  have hS := Lib.hid (share34 ((w.alloc (.cells #[.int .i64 k, .int .i64 s] 41 (0, 0))).drew) g B mv ps C k s h0 h1 ((hE.alloc _).drew.blk.cell 0) (CW.IsMs.ft hM (((Ft.refl B [] w).alloc _).drew) (by decide) (by decide) (by decide)) hMs hl)
  have HSH := Lib.hid hsh
  have q1 : (w.alloc (.cells #[.int .i64 k, .int .i64 s] 41 (0, 0))).drew.cell? ⟨w.heap.size, 0, none⟩ = some (.int .i64 k) := (Blk.here w 41 #[.int .i64 k, .int .i64 s]).cell 0
  have q2 : (w.alloc (.cells #[.int .i64 k, .int .i64 s] 41 (0, 0))).drew.cell? ⟨w.heap.size, 1, none⟩ = some (.int .i64 s) := (Blk.here w 41 #[.int .i64 k, .int .i64 s]).cell 1
  clear hE hM hsh
  go_enter Try.func24, Try.ntmps24
  go_wp2_with fail
  generalize w.alloc (.cells #[.int .i64 k, .int .i64 s] 41 (0, 0)) = w1 at *
  go_region_with (go_at_call 34; (with_reducible refine hS.out.mono ?_); rintro e w2 ⟨a, n, rfl, hp, hb2⟩; rw [HSH.out]; clear hp)
  go_wp2_with fail
  go_ret2
  refine ⟨rfl, ?_⟩
  exact (hB.drew).trans (hb2.mono hB.size)
theorem IsMs.drewN {w : World} {B : Nat} {mv : Value} {ps : List (Nat × Nat)} {C : List (List Int)} (h : IsMs w B mv ps C) (n : Nat) : IsMs (w.drewN n) B mv ps C := CW.IsMs.ft h ((Ft.refl B [] w).drewN n) (by decide) (by decide) (by decide)
theorem IsE.drewN {w : World} {g : Nat} {mv ov : Value} {R c l : Int} {o : List Int} {h : Nat} (hE : IsE w g mv R ov o c h l) (n : Nat) : IsE (w.drewN n) g mv R ov o c h l := ⟨hE.blk, hE.row⟩
structure Bd (s : List Int × Int × Nat × Int) (N : Nat) : Prop where
  c0 : 0 ≤ s.2.1
  c1 : s.2.1 < 256
  l0 : 0 ≤ s.2.2.2
  l1 : s.2.2.2 < 8589934592
  h1 : 1 ≤ s.2.2.1
  len : s.1.length + s.2.2.1 ≤ N
theorem Bd.sh {s : List Int × Int × Nat × Int} {N : Nat} (b : Bd s N) : Bd (CM.sh s.1 s.2.1 s.2.2.1 s.2.2.2) (N + 1) := by
  obtain ⟨a1, a2⟩ := sh_len s.1 s.2.1 s.2.2.2 b.h1
  obtain ⟨b1, b2⟩ := sh_c s.1 s.2.2.1 s.2.2.2 b.c0 b.c1
  have hl := sh_low s.1 s.2.1 s.2.2.1 s.2.2.2
  exact ⟨b1, b2, by rw [hl]; omega, by rw [hl]; omega, a2, by have := b.len; omega⟩
theorem shs_succ : ∀ (j : Nat) (s : List Int × Int × Nat × Int), shs (j + 1) s = CM.sh (shs j s).1 (shs j s).2.1 (shs j s).2.2.1 (shs j s).2.2.2
  | 0, s => rfl
  | j + 1, s => by
    rw [show shs (j + 1 + 1) s = shs (j + 1) (CM.sh s.1 s.2.1 s.2.2.1 s.2.2.2) from rfl, shs_succ j]
    rfl
theorem Bd.shs {s : List Int × Int × Nat × Int} {N : Nat} (b : Bd s N) : ∀ j, Bd (CM.shs j s) (N + j)
  | 0 => b
  | j + 1 => by
    rw [shs_succ]
    exact (Bd.shs b j).sh
theorem many_lt {r : Int} {j : Nat} (h0 : 256 ≤ r) (h : j < many r) : r * pw j < 16777216 := by
  unfold many at h
  by_cases a : r < 65536
  · rw [if_pos a] at h
    have : j = 0 ∨ j = 1 := by omega
    rcases this with rfl | rfl
    · rw [pw_zero]; omega
    · rw [pw_one]; omega
  · rw [if_neg a] at h
    by_cases b : r < 16777216
    · rw [if_pos b] at h
      have : j = 0 := by omega
      subst this
      rw [pw_zero]; omega
    · rw [if_neg b] at h
      omega
theorem many_le (r : Int) : many r ≤ 2 := by unfold many; split <;> (try split) <;> omega
set_option maxHeartbeats 4000000 in
set_option maxRecDepth 100000 in
theorem code_some (w : World) (g B : Nat) (mv ov : Value) (R c l : Int) (o : List Int) (h : Nat) (ps : List (Nat × Nat)) (C : List (List Int)) (k s a n q : Int) (m : Nat) (h0 : -9223372036854775808 ≤ k) (h1 : k < 9223372036854775808) (hE : IsE w g mv R ov o c h l) (hM : IsMs w B mv ps C) (hMs : Mods C) (hl : C.length ≤ 1000) (hsh : share C k s = some (a, n)) (hBg : B ≤ g)
    (hq : q = R / whole C k) (hm : m = many (q * n)) (hR0 : 16777216 ≤ R) (hR1 : R < 4294967296) (hl0 : 0 ≤ l) (hlR : l + R ≤ 8589934592) (hc0 : 0 ≤ c) (hc1 : c < 256) (hh : 1 ≤ h) (hoh : o.length + h ≤ 100000) :
    Calls Try.prog 24 #[.pointer (some ⟨g, 0, none⟩), .agg #[.int .i64 k, .int .i64 s]] w fun e w' => e = .returned (.tuple #[.int .i64 m, .bool true]) ∧ ∃ ov', IsE w' g mv (q * n * pw m) ov' (shs m (o, c, h, l + q * a)).1 (shs m (o, c, h, l + q * a)).2.1 (shs m (o, c, h, l + q * a)).2.2.1 (shs m (o, c, h, l + q * a)).2.2.2 ∧ IsMs w' B mv ps (cntC C k s) ∧ Ft B [78, 5, 103, 3] w w' := by
  have hw1 := (Ft.refl B [78, 5, 103, 3] w).alloc (.cells #[.int .i64 k, .int .i64 s] 41 (0, 0))
  have hE1 := (hE.alloc (.cells #[.int .i64 k, .int .i64 s] 41 (0, 0))).drew
  have hM1 : IsMs (w.alloc (.cells #[.int .i64 k, .int .i64 s] 41 (0, 0))).drew B mv ps C := CW.IsMs.ft hM (((Ft.refl B [] w).alloc _).drew) (by decide) (by decide) (by decide)
  have hbx : Blk (w.alloc (.cells #[.int .i64 k, .int .i64 s] 41 (0, 0))).drew w.heap.size 41 #[.int .i64 k, .int .i64 s] := Blk.here w 41 #[.int .i64 k, .int .i64 s]
  have hS := Lib.hid (share34 ((w.alloc (.cells #[.int .i64 k, .int .i64 s] 41 (0, 0))).drew) g B mv ps C k s h0 h1 (hE1.blk.cell 0) hM1 hMs hl)
  have hss := share_some hMs hsh
  have q1 := hbx.cell 0
  have q2 := hbx.cell 1
  have HSH := Lib.hid hsh
  have HMS := Lib.hid hMs
  have HW1 := Lib.hid hw1
  clear hE hM hsh hMs hw1
  obtain ⟨s0, a0, n1, an, x1, x2, _⟩ := hss
  generalize hx : whole C k = x at *
  have HX := Lib.hid hx
  have hq256 : 256 ≤ q := by rw [hq, Int.le_ediv_iff_mul_le (by omega)]; omega
  have hqw : q * x ≤ R := by rw [hq]; exact Int.ediv_mul_le _ (by omega)
  have hqR : q ≤ R := by
    have := Int.mul_le_mul_of_nonneg_left x1 (show 0 ≤ q by omega)
    omega
  have hqan : q * a + q * n ≤ R := by
    have := Int.mul_le_mul_of_nonneg_left an (show 0 ≤ q by omega)
    rw [Int.mul_add] at this
    omega
  have hqn : 256 ≤ q * n := by
    have := Int.mul_le_mul_of_nonneg_left n1 (show 0 ≤ q by omega)
    omega
  have hqa : 0 ≤ q * a := Int.mul_nonneg (by omega) a0
  have HQ := Lib.hid hq
  have HM := Lib.hid hm
  clear hx hq hm hqw
  go_enter Try.func24, Try.ntmps24
  go_wp2_with fail
  generalize hW1 : w.alloc (.cells #[.int .i64 k, .int .i64 s] 41 (0, 0)) = w1 at *
  have hgl := hE1.blk.lt
  have hbl := hbx.lt
  generalize hbox : w.heap.size = b at *
  clear hW1 hbox
  go_region_with (go_at_call 34; (with_reducible refine hS.out.mono ?_); rintro e w2 ⟨a', n', rfl, hp, hb2⟩; have hp2 := hp _ HSH.out; clear hp; obtain ⟨hp3, hp4⟩ := hp2; subst hp3; subst hp4; rw [HSH.out])
  have hE2 := hE1.below hb2
  have hM2 := hM1.below hb2
  have hbx2 := hbx.below hb2
  clear hE1 hM1 hbx q1 q2 hS
  have e0 : w2.cell? ⟨g, 0, none⟩ = some mv := hE2.blk.cell 0
  have e1 : w2.cell? ⟨g, 1, none⟩ = some (.int .u32 R) := hE2.blk.cell 1
  have e5 : w2.cell? ⟨g, 5, none⟩ = some (.int .u64 l) := hE2.blk.cell 5
  have y0 : w2.cell? ⟨b, 0, none⟩ = some (.int .i64 k) := hbx2.cell 0
  have y1 : w2.cell? ⟨b, 1, none⟩ = some (.int .i64 s) := hbx2.cell 1
  have hW : ∀ j : Nat, Calls Try.prog 32 #[.pointer (some ⟨g, 0, none⟩), .int .i64 k] (w2.drewN j) fun e w' => e = .returned (.int .i64 x) ∧ w2.drewN j = w' := fun j => by
    have := whole32 (w2.drewN j) g B mv ps C k h0 h1 ((hE2.drewN j).blk.cell 0) (hM2.drewN j) hl
    rw [HX.out] at this
    exact this
  have HW := Lib.hid hW
  clear hW
  have f1 := hE2.blk.frozen 1
  have f5 := hE2.blk.frozen 5
  go_wp2_with fail
  go_quiet ((go_at_call 32; exact quiet_one (HW.out _)))
  rw [← HQ.out]
  go_wp2_with fail
  have hF2 : Ft B [78, 5, 103, 3] w w2 := (HW1.out.drew).below_ hb2
  have hE3 := IsE.set5 ((Ft.refl g [78, 5] w2).drewN nq) (hE2.drewN nq) (l + q * a')
  have hE4 := IsE.setR hE3.2 hE3.1 (q * n')
  have hF4 : Ft B [78, 5, 103, 3] w2 (((w2.drewN nq).setCell ⟨g, 5, none⟩ (.int .u64 (l + q * a'))).setCell ⟨g, 1, none⟩ (.int .u32 (q * n'))) := hE4.2.mono hBg (by decide)
  have hbx4 := hE4.2.blk hbx2 (by decide)
  have hM4 := CW.IsMs.ft hM2 hE4.2 (by decide) (by decide) (by decide)
  have hF5 := hF2.trans hF4
  have hbd : Bd (o, c, h, l + q * a') 100000 := ⟨hc0, hc1, by show 0 ≤ l + q * a'; omega, by show l + q * a' < 8589934592; omega, hh, hoh⟩
  have hE5 := hE4.1
  have hm2 : m ≤ 2 := by rw [HM.out]; exact many_le _
  generalize ((w2.drewN nq).setCell ⟨g, 5, none⟩ (.int .u64 (l + q * a'))).setCell ⟨g, 1, none⟩ (.int .u32 (q * n')) = w5 at *
  clear hE2 hM2 hbx2 e0 e1 e5 y0 y1 f1 f5 hE3 hE4 hF4 hF2 hb2
  go_loopw [10] (fun v wr => ∃ j : Nat, j ≤ m ∧ v = .int .i64 j ∧ ∃ ovj, IsE wr g mv (q * n' * pw j) ovj (shs j (o, c, h, l + q * a')).1 (shs j (o, c, h, l + q * a')).2.1 (shs j (o, c, h, l + q * a')).2.2.1 (shs j (o, c, h, l + q * a')).2.2.2 ∧ Ft B [78, 5, 103, 3] w wr ∧ Blk wr b 41 #[.int .i64 k, .int .i64 s] ∧ IsMs wr B mv ps C) (fun v _ => m - (intOf v).toNat)
  case atStart => exact ⟨0, Nat.zero_le _, rfl, ov, by rw [pw_zero, Int.mul_one]; exact hE5, hF5, hbx4, hM4⟩
  case round =>
    clear hE5 hF5 hbx4 hM4
    obtain ⟨j, hj, rfl, ovj, hE6, hF6, hbx6, hM6⟩ := hrel
    have hbd6 := hbd.shs j
    have z1 : wr.cell? ⟨g, 1, none⟩ = some (.int .u32 (q * n' * pw j)) := hE6.blk.cell 1
    have zf1 := hE6.blk.frozen 1
    have hpj := pw_pos j
    have hr0 : 0 ≤ q * n' * pw j := Int.mul_nonneg (by omega) (by omega)
    by_cases hjm : j < m
    · have hr1 : q * n' * pw j < 16777216 := many_lt hqn (by rw [← HM.out]; exact hjm)
      have hrs : q * n' * pw (j + 1) = q * n' * pw j * 256 := by rw [pw_succ, ← Int.mul_assoc (q * n')]
      have hss := shs_succ j (o, c, h, l + q * a')
      generalize hr : q * n' * pw j = r at *
      have HRS := Lib.hid hrs
      have HSS := Lib.hid hss
      generalize shs j (o, c, h, l + q * a') = sj at *
      clear hpj hrs hss hr
      obtain ⟨oj, cj, hhj, lj⟩ := sj
      obtain ⟨b1, b2, b3, b4, b5, b6⟩ := hbd6
      simp only at b1 b2 b3 b4 b5 b6 hE6
      go_wp2_with fail
      have hE7 := IsE.setR (Ft.refl g [78, 5] wr) hE6 (r * 256)
      refine (shift_any _ g mv ovj (r * 256) cj lj oj hhj hE7.1 b1 b2 b3 b4 b5 (by omega) (by omega)).mono ?_
      rintro e w7 ⟨rfl, ov7, hE8, hF8⟩
      go_wp2_with fail
      go_roundw
      case rel =>
        have hF9 := hE7.2.trans hF8
        refine ⟨j + 1, by omega, by go_num, ov7, ?_, hF6.trans (hF9.mono hBg (by decide)), hF9.blk hbx6 (by decide), CW.IsMs.ft hM6 hF9 (by decide) (by decide) (by decide)⟩
        rw [HRS.out, HSS.out]
        exact hE8
      case measure => simp [intOf]; omega
    · obtain rfl : j = m := by omega
      have hr2 : 16777216 ≤ q * n' * pw j := by
        have := (many_mul hqn (by omega)).1
        rw [← HM.out] at this
        exact this
      have dr : decide (q * n' * pw j < 16777216) = false := decide_eq_false (by omega)
      have y0 : wr.drew.cell? ⟨b, 0, none⟩ = some (.int .i64 k) := hbx6.cell 0
      have y1 : wr.drew.cell? ⟨b, 1, none⟩ = some (.int .i64 s) := hbx6.cell 1
      have hC := Lib.hid (count41 wr.drew g B mv ps C k s (hE6.drew.blk.cell 0) (CW.IsMs.ft hM6 ((Ft.refl B [] wr).drew) (by decide) (by decide) (by decide)) HMS.out hl HSH.out)
      go_wp2_with fail
      go_region_with (go_at_call 41; (with_reducible refine hC.out.mono ?_); rintro e w8 ⟨rfl, hM8, hF8⟩)
      go_wp2_with fail
      go_ret2
      refine ⟨rfl, ovj, ?_, hM8, (hF6.drew).trans (hF8.mono (Nat.le_refl _) (by decide))⟩
      exact hE6.drew.ft hF8 (by decide) (by decide)

set_option maxHeartbeats 1000000 in
set_option maxRecDepth 100000 in
theorem end26 (w : World) (g : Nat) (mv ov : Value) (R c l : Int) (o : List Int) (h : Nat) (hE : IsE w g mv R ov o c h l) (hb : Bd (o, c, h, l) 100000) :
    Calls Try.prog 26 #[.pointer (some ⟨g, 0, none⟩)] w fun e w' => ∃ ov', e = .returned ov' ∧ Kd.R (Kd.int .u8) 5 w' (g + 1) (fun _ => True) ov' (shs 5 (o, c, h, l)).1 ∧ Ft g [78, 5] w w' := by
  go_enter Try.func26, Try.ntmps26
  go_wp2_with fail
  go_loopw [3] (fun v wr => ∃ j : Nat, j ≤ 5 ∧ v = .int .i64 j ∧ ∃ ovj, IsE wr g mv R ovj (shs j (o, c, h, l)).1 (shs j (o, c, h, l)).2.1 (shs j (o, c, h, l)).2.2.1 (shs j (o, c, h, l)).2.2.2 ∧ Ft g [78, 5] w wr) (fun v _ => 5 - (intOf v).toNat)
  case atStart => exact ⟨0, by omega, rfl, ov, hE, Ft.refl _ _ _⟩
  case round =>
    clear hE
    obtain ⟨j, hj, rfl, ovj, hE6, hF6⟩ := hrel
    have hbd6 := hb.shs j
    by_cases hjm : j < 5
    · have hss := shs_succ j (o, c, h, l)
      have HSS := Lib.hid hss
      generalize shs j (o, c, h, l) = sj at *
      clear hss
      obtain ⟨oj, cj, hhj, lj⟩ := sj
      obtain ⟨b1, b2, b3, b4, b5, b6⟩ := hbd6
      simp only at b1 b2 b3 b4 b5 b6 hE6
      go_wp2_with fail
      refine (shift_any _ g mv ovj R cj lj oj hhj hE6 b1 b2 b3 b4 b5 (by omega) (by omega)).mono ?_
      rintro e w7 ⟨rfl, ov7, hE8, hF8⟩
      go_wp2_with fail
      go_roundw
      case rel =>
        refine ⟨j + 1, by omega, by go_num, ov7, ?_, hF6.trans hF8⟩
        rw [HSS.out]
        exact hE8
      case measure => simp [intOf]; omega
    · obtain rfl : j = 5 := by omega
      have z2 : wr.cell? ⟨g, 2, none⟩ = some ovj := hE6.blk.cell 2
      obtain ⟨A, n, rfl⟩ := Kd.R_slice hE6.row
      go_wp2_with fail
      go_ret
      exact ⟨_, rfl, hE6.row, hF6⟩
end Go.Proofs.Ythegimfokcdehaa.CW
