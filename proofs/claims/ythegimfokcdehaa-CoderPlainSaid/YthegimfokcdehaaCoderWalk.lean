/- The coder walked: the writer's shifts. -/
import Derived.Test.YthegimfokcdehaaFt
import Derived.Test.YthegimfokcdehaaCoderMath2
import Derived.Test.YthegimfokcdehaaModelWalk
import Derived.Test.YthegimfokcdehaaPCodx1
import Derived.Deep.RegionLaw
import Derived.Deep.DeepMust
namespace Go.Proofs.Ythegimfokcdehaa.CW
open Go Go.RowKit Go.Proofs.Ythegimfokcdehaa.Mem Go.Proofs.Ythegimfokcdehaa.CM Go.Proofs.Ythegimfokcdehaa.MW Go.Proofs.Ythegimfokcdehaa.PCod Go.Proofs.YthegimfokcdehaaW.PrintWords Go.Proofs.YthegimfokcdehaaW.PrintLast Go.Proofs.YthegimfokcdehaaW.PrintMore
set_option linter.unusedVariables false
set_option linter.unusedSimpArgs false
/-- The coder behind a pointer. -/
structure IsE (w : World) (g : Nat) (mv : Value) (R : Int) (ov : Value) (o : List Int) (c : Int) (h : Nat) (l : Int) : Prop where
  blk : Blk w g 78 #[mv, .int .u32 R, ov, .int .u8 c, .int .i64 h, .int .u64 l]
  row : Kd.R (Kd.int .u8) 5 w (g + 1) (fun _ => True) ov o

theorem and24 {l : Int} (h0 : 0 ≤ l) (h1 : l < 8589934592) : bits .and .u64 l 16777215 = l % 16777216 :=
  bits_mask .u64 63 (by decide) (fun n h0 h1 => by simp [IntKind.wrap, IntKind.bits, IntKind.signed]; omega) 24 (by decide) l h0 (by omega)
theorem low_wrap {l : Int} (h0 : 0 ≤ l) (h1 : l < 8589934592) : IntKind.u64.wrap (bits .and .u64 l 16777215 * 256) = l % 16777216 * 256 := by
  rw [and24 h0 h1]
  simp [IntKind.wrap, IntKind.bits, IntKind.signed]
  omega
set_option maxHeartbeats 1000000 in
set_option maxRecDepth 100000 in
theorem shift_no (w : World) (g : Nat) (mv ov : Value) (R c l : Int) (o : List Int) (h : Nat) (hE : IsE w g mv R ov o c h l) (hl0 : 0 ≤ l) (hl1 : l < 8589934592) (hh2 : h ≤ 1000000) (hno : ¬ (l < 4278190080 ∨ 4294967296 ≤ l)) :
    Calls Try.prog 40 #[.pointer (some ⟨g, 2, none⟩)] w fun e w' => e = .returned (.tuple #[]) ∧ ∃ ov', IsE w' g mv R ov' (sh o c h l).1 (sh o c h l).2.1 (sh o c h l).2.2.1 (sh o c h l).2.2.2 ∧ Ft g [78, 5] w w' := by
  have b3 : w.cell? ⟨g, 4, none⟩ = some (.int .i64 h) := hE.blk.cell 4
  have b4 : w.cell? ⟨g, 5, none⟩ = some (.int .u64 l) := hE.blk.cell 5
  have f3 := hE.blk.frozen 4
  have f4 := hE.blk.frozen 5
  have d1 : decide (l < 4278190080) = false := decide_eq_false (by omega)
  have d2 : decide (4294967296 ≤ l) = false := decide_eq_false (by omega)
  go_enter Try.func40, Try.ntmps40
  go_wp2
  go_end0
  rw [low_wrap hl0 hl1]
  unfold sh
  rw [if_neg hno]
  have h1 := hE.blk.set_ 4 (.int .i64 (h + 1))
  have h2 := h1.set_ 5 (.int .u64 (l % 16777216 * 256))
  have hr := Kd.R_set (Kd.R_set hE.row hE.blk (by decide) 4 (.int .i64 (h + 1))) h1 (by decide) 5 (.int .u64 (l % 16777216 * 256))
  refine ⟨rfl, ov, ⟨?_, hr⟩, ((Ft.refl g [78, 5] w).setCell (p := ⟨g, 4, none⟩) hE.blk (by decide) (Nat.le_refl g) _).setCell (p := ⟨g, 5, none⟩) h1 (by decide) (Nat.le_refl g) _⟩
  exact h2

theorem info5 : (Try.prog.info? 5).map (fun i => (i.zero, i.size, i.bytes)) = some (some (.int .u8 0), (Kd.int .u8).sz, 1) := by kernel_rfl
/-- A byte more is stored. -/
theorem IsE.out {w0 w w1 : World} {g : Nat} {mv ov : Value} {R c l : Int} {o : List Int} {h : Nat} (hF : Ft g [78, 5] w0 w) (hE : IsE w g mv R ov o c h l) {v1 : Value} {xs : List Int} (hR1 : Kd.R (Kd.int .u8) 5 w1 (g + 1) (fun _ => True) v1 xs) (hg1 : w.grownBy w1 ov.ownBlock) :
    Blk w1 g 78 #[mv, .int .u32 R, ov, .int .u8 c, .int .i64 h, .int .u64 l] ∧ IsE (w1.setCell ⟨g, 2, none⟩ v1) g mv R v1 xs c h l ∧ Ft g [78, 5] w0 (w1.setCell ⟨g, 2, none⟩ v1) := by
  have hne : some g ≠ ov.ownBlock := Kd.R_ne hE.row hE.blk (by decide)
  have hB := hE.blk.grown hg1 hne
  obtain ⟨inner, ho⟩ := Kd.R_own hE.row
  have hF1 := hF.grown hg1 (fun k hk => by
    obtain ⟨h1, cs, h2⟩ := own_row ho k hk
    exact ⟨by omega, cs, 5, h2, by decide⟩)
  refine ⟨hB, ⟨?_, Kd.R_set hR1 hB (by decide) 2 v1⟩, hF1.setCell (p := ⟨g, 2, none⟩) hB (by decide) (Nat.le_refl g) v1⟩
  have := hB.set_ 2 v1
  exact this
theorem IsE.drew {w : World} {g : Nat} {mv ov : Value} {R c l : Int} {o : List Int} {h : Nat} (hE : IsE w g mv R ov o c h l) : IsE w.drew g mv R ov o c h l := ⟨hE.blk, hE.row⟩
theorem IsE.alloc {w : World} {g : Nat} {mv ov : Value} {R c l : Int} {o : List Int} {h : Nat} (hE : IsE w g mv R ov o c h l) (ob : Obj) : IsE (w.alloc ob) g mv R ov o c h l :=
  ⟨hE.blk.alloc ob, Kd.R_step hE.row fun k _ hk => Below.heap_alloc w ob k hk⟩
/-- The other three numbers are stored. -/
theorem IsE.set4 {w0 w : World} {g : Nat} {mv ov : Value} {R c l : Int} {o : List Int} {h : Nat} (hF : Ft g [78, 5] w0 w) (hE : IsE w g mv R ov o c h l) (h' : Nat) : IsE (w.setCell ⟨g, 4, none⟩ (.int .i64 h')) g mv R ov o c h' l ∧ Ft g [78, 5] w0 (w.setCell ⟨g, 4, none⟩ (.int .i64 h')) := by
  refine ⟨⟨?_, Kd.R_set hE.row hE.blk (by decide) 4 _⟩, hF.setCell (p := ⟨g, 4, none⟩) hE.blk (by decide) (Nat.le_refl g) _⟩
  have := hE.blk.set_ 4 (.int .i64 h')
  exact this
theorem IsE.set3 {w0 w : World} {g : Nat} {mv ov : Value} {R c l : Int} {o : List Int} {h : Nat} (hF : Ft g [78, 5] w0 w) (hE : IsE w g mv R ov o c h l) (c' : Int) : IsE (w.setCell ⟨g, 3, none⟩ (.int .u8 c')) g mv R ov o c' h l ∧ Ft g [78, 5] w0 (w.setCell ⟨g, 3, none⟩ (.int .u8 c')) := by
  refine ⟨⟨?_, Kd.R_set hE.row hE.blk (by decide) 3 _⟩, hF.setCell (p := ⟨g, 3, none⟩) hE.blk (by decide) (Nat.le_refl g) _⟩
  have := hE.blk.set_ 3 (.int .u8 c')
  exact this
theorem IsE.set5 {w0 w : World} {g : Nat} {mv ov : Value} {R c l : Int} {o : List Int} {h : Nat} (hF : Ft g [78, 5] w0 w) (hE : IsE w g mv R ov o c h l) (l' : Int) : IsE (w.setCell ⟨g, 5, none⟩ (.int .u64 l')) g mv R ov o c h l' ∧ Ft g [78, 5] w0 (w.setCell ⟨g, 5, none⟩ (.int .u64 l')) := by
  refine ⟨⟨?_, Kd.R_set hE.row hE.blk (by decide) 5 _⟩, hF.setCell (p := ⟨g, 5, none⟩) hE.blk (by decide) (Nat.le_refl g) _⟩
  have := hE.blk.set_ 5 (.int .u64 l')
  exact this
theorem u8w (x : Int) : IntKind.u8.wrap x = x % 256 := by simp [IntKind.wrap, IntKind.bits, IntKind.signed]
theorem rep_snoc (a : List Int) (n : Nat) (x : Int) : a ++ List.replicate n x ++ [x] = a ++ List.replicate (n + 1) x := by rw [List.append_assoc, List.replicate_succ']

set_option maxHeartbeats 2000000 in
set_option maxRecDepth 100000 in
theorem shift_yes (w : World) (g : Nat) (mv ov : Value) (R c l : Int) (o : List Int) (h : Nat) (hE : IsE w g mv R ov o c h l) (hc0 : 0 ≤ c) (hc1 : c < 256) (hl0 : 0 ≤ l) (hl1 : l < 8589934592) (hh1 : 1 ≤ h) (hh2 : h ≤ 1000000) (ho : o.length ≤ 1000000) (hyes : l < 4278190080 ∨ 4294967296 ≤ l) :
    Calls Try.prog 40 #[.pointer (some ⟨g, 2, none⟩)] w fun e w' => e = .returned (.tuple #[]) ∧ ∃ ov', IsE w' g mv R ov' (sh o c h l).1 (sh o c h l).2.1 (sh o c h l).2.2.1 (sh o c h l).2.2.2 ∧ Ft g [78, 5] w w' := by
  have b2 : w.cell? ⟨g, 2, none⟩ = some ov := hE.blk.cell 2
  have b2d : w.drew.cell? ⟨g, 2, none⟩ = some ov := hE.blk.cell 2
  have bc : w.cell? ⟨g, 3, none⟩ = some (.int .u8 c) := hE.blk.cell 3
  have bcd : w.drew.cell? ⟨g, 3, none⟩ = some (.int .u8 c) := hE.blk.cell 3
  have b3 : w.cell? ⟨g, 4, none⟩ = some (.int .i64 h) := hE.blk.cell 4
  have b4 : w.cell? ⟨g, 5, none⟩ = some (.int .u64 l) := hE.blk.cell 5
  have dh : decide (0 < h) = true := decide_eq_true (by omega)
  have dc : (decide (l < 4278190080) = true) ∨ (decide (l < 4278190080) = false ∧ decide (4294967296 ≤ l) = true) := by
    by_cases h1 : l < 4278190080
    · exact .inl (decide_eq_true h1)
    · exact .inr ⟨decide_eq_false h1, decide_eq_true (by omega)⟩
  have hRd : Kd.R (Kd.int .u8) 5 w.drew (g + 1) (fun _ => True) ov o := hE.row
  have hlt := hE.blk.lt
  have fd2 : w.drew.frozen? ⟨g, 2, none⟩ = false := hE.blk.frozen 2
  have hq0 : 0 ≤ l / 4294967296 := by omega
  have hq1 : l / 4294967296 ≤ 1 := by omega
  have hsh : sh o c h l = (o ++ [(c + l / 4294967296) % 256] ++ List.replicate (h - 1) ((255 + l / 4294967296) % 256), l / 16777216 % 256, 1, l % 16777216 * 256) := by
    unfold sh
    rw [if_pos hyes, if_pos (by omega)]
  have HSH := Lib.hid hsh
  clear hsh hyes
  rcases dc with d1 | ⟨d1, d2⟩
  all_goals
    go_enter Try.func40, Try.ntmps40
    go_upto_region 3 with fail
    generalize hq : l / 4294967296 = q at *
    have HQ := Lib.hid hq
    clear hq
    go_cut [2] (fun s2 wx => s2 = .int .u8 q ∧ ∃ ov1, IsE wx g mv R ov1 (o ++ [(c + q) % 256]) c h l ∧ Ft g [78, 5] w wx)
    case first =>
      go_region_law (refine Kd.R_append_step (Kd.int .u8) (w0 := w.drew) (W := w.drew) (g + 1) (by simp [Region.wanted]) (.tmp 30) (.tmp 37) 25 5 (.int .u8 0) 1 rfl Try.underlying25 info5 rfl (by decide) (by decide) ov o (IntKind.u8.wrap (c + q)) [.int .u8 (IntKind.u8.wrap (c + q))] (fun _ => True) (fun _ => False) (by rfl) (by rfl) rfl (fun _ hk => hk.elim) (fun _ _ => trivial) hRd (Below.refl _ _) (by simp; omega) (by omega) ?_; intro v1 w1 hR1 hb1 hg1 hat1; have hO1 := IsE.out (w := w.drew) ((Ft.refl g [78, 5] w).drew) hE.drew hR1 hg1; have x2 : w1.cell? ⟨g, 2, none⟩ = some ov := hO1.1.cell 2; have xf2 : w1.frozen? ⟨g, 2, none⟩ = false := hO1.1.frozen 2; obtain ⟨A1, c1, e1⟩ := Kd.R_slice hR1; subst e1)
      all_goals
        go_wp2_with fail
        go_meet
        have hO2 := hO1.2
        simp only [List.length_append, List.length_singleton, u8w] at hO2
        exact ⟨rfl, _, hO2.1, hO2.2⟩
    case rest =>
      obtain ⟨rfl, ov1, hE1, hF1⟩ := hcut
      clear hE b2 b2d bc bcd b3 b4 dh hRd fd2 d1
      go_wp2_with fail
      go_loopg [] (h - 1) (fun kq wx => kq ≤ h - 1 ∧ ∃ ov2, IsE wx g mv R ov2 (o ++ [(c + q) % 256] ++ List.replicate (h - 1 - kq) ((255 + q) % 256)) c (kq + 1) l ∧ Ft g [78, 5] w wx)
      case atStart => exact ⟨Nat.le_refl _, ov1, by rw [Nat.sub_self, List.replicate_zero, List.append_nil, show h - 1 + 1 = h by omega]; exact hE1, hF1⟩
      case round =>
        clear hE1 hF1
        obtain ⟨hkq, ov2, hE2, hF2⟩ := hrel
        have y2 : wr.cell? ⟨g, 2, none⟩ = some ov2 := hE2.blk.cell 2
        have y3 : wr.cell? ⟨g, 3, none⟩ = some (.int .u8 c) := hE2.blk.cell 3
        have y4 : wr.cell? ⟨g, 4, none⟩ = some (.int .i64 ((gk + 1 : Nat) : Int)) := hE2.blk.cell 4
        have y5 : wr.cell? ⟨g, 5, none⟩ = some (.int .u64 l) := hE2.blk.cell 5
        have z3 := hE2.blk.frozen 3
        have z4 := hE2.blk.frozen 4
        have z5 := hE2.blk.frozen 5
        have hlen : (o ++ [(c + q) % 256] ++ List.replicate (h - 1 - gk) ((255 + q) % 256)).length ≤ 2000002 := by
          rw [List.length_append, List.length_append, List.length_replicate, List.length_singleton]; omega
        generalize hO : o ++ [(c + q) % 256] ++ List.replicate (h - 1 - gk) ((255 + q) % 256) = O at *
        have HO := Lib.hid hO
        clear hO
        by_cases hk : gk = 0
        · subst hk
          go_wp2_with fail
          go_end0
          have h1 := IsE.set4 hF2 hE2 0
          have h2 := IsE.set3 h1.2 h1.1 (l / 16777216 % 256)
          have h3 := IsE.set4 h2.2 h2.1 1
          have h4 := IsE.set5 h3.2 h3.1 (l % 16777216 * 256)
          refine ⟨rfl, ov2, ?_⟩
          rw [low_wrap hl0 hl1, HSH.out]
          have ho := HO.out
          rw [Nat.sub_zero] at ho
          rw [ho]
          exact h4
        · obtain ⟨gm, rfl⟩ : ∃ m, gk = m + 1 := ⟨gk - 1, by omega⟩
          have z2 := hE2.blk.frozen 2
          have hlt2 := hE2.blk.lt
          go_wp2_with (first | (at_builtin; go_must (refine Kd.R_append (Kd.int .u8) (w0 := wr) (W := wr) (g + 1) rfl (.tmp 57) (.tmp 60) 25 5 (.int .u8 0) 1 rfl Try.underlying25 info5 rfl (by decide) (by decide) ov2 O ((255 + q) % 256) [.int .u8 ((255 + q) % 256)] (fun _ => True) (fun _ => False) rfl rfl rfl (fun _ hk => hk.elim) (fun _ _ => trivial) hE2.row (Below.refl _ _) (by omega) (by omega) ?_); intro v1 w1 hR1 hb1 hg1 hat1; have hO1 := IsE.out hF2 hE2 hR1 hg1; have x2 : w1.cell? ⟨g, 2, none⟩ = some ov2 := hO1.1.cell 2; have xf2 : w1.frozen? ⟨g, 2, none⟩ = false := hO1.1.frozen 2; obtain ⟨A1, c1, e1⟩ := Kd.R_slice hR1; subst e1; have x4 : w1.cell? ⟨g, 4, none⟩ = some (.int .i64 ((gm + 1 + 1 : Nat) : Int)) := hO1.1.cell 4; have xf4 : w1.frozen? ⟨g, 4, none⟩ = false := hO1.1.frozen 4))
          go_roundg gm
          case rel =>
            have h1 := hO1.2
            simp only [List.length_append, List.length_singleton] at h1
            have h2 := IsE.set4 h1.2 h1.1 (gm + 1)
            have e : o ++ [(c + q) % 256] ++ List.replicate (h - 1 - gm) ((255 + q) % 256) = O ++ [(255 + q) % 256] := by
              rw [← HO.out, rep_snoc, show h - 1 - (gm + 1) + 1 = h - 1 - gm by omega]
            rw [e]
            exact ⟨by omega, _, h2.1, h2.2⟩
          case measure => omega
theorem shift_any (w : World) (g : Nat) (mv ov : Value) (R c l : Int) (o : List Int) (h : Nat) (hE : IsE w g mv R ov o c h l) (hc0 : 0 ≤ c) (hc1 : c < 256) (hl0 : 0 ≤ l) (hl1 : l < 8589934592) (hh1 : 1 ≤ h) (hh2 : h ≤ 1000000) (ho : o.length ≤ 1000000) :
    Calls Try.prog 40 #[.pointer (some ⟨g, 2, none⟩)] w fun e w' => e = .returned (.tuple #[]) ∧ ∃ ov', IsE w' g mv R ov' (sh o c h l).1 (sh o c h l).2.1 (sh o c h l).2.2.1 (sh o c h l).2.2.2 ∧ Ft g [78, 5] w w' := by
  by_cases hy : l < 4278190080 ∨ 4294967296 ≤ l
  · exact shift_yes w g mv ov R c l o h hE hc0 hc1 hl0 hl1 hh1 hh2 ho hy
  · exact shift_no w g mv ov R c l o h hE hl0 hl1 hh2 hy
end Go.Proofs.Ythegimfokcdehaa.CW
