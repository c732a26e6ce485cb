/- The coder walked: the writer's shifts. -/
import Derived.Test.YthegimfokcdehaaFt
import Derived.Test.YthegimfokcdehaaCoderMathAll
import Derived.Test.YthegimfokcdehaaModelWalk
import Derived.Test.YthegimfokcdehaaPCodx1
import Derived.Deep.RegionLaw
import Derived.Deep.DeepMust
import Derived.Test.YthegimfokcdehaaQuiets
namespace Go.Proofs.Ythegimfokcdehaa.CW
open Go Go.RowKit Go.Proofs.Ythegimfokcdehaa.Mem Go.Proofs.Ythegimfokcdehaa.CM Go.Proofs.Ythegimfokcdehaa.MW Go.Proofs.Ythegimfokcdehaa.PCod Go.Proofs.YthegimfokcdehaaW.PrintWords Go.Proofs.YthegimfokcdehaaW.PrintLast Go.Proofs.YthegimfokcdehaaW.PrintMore
set_option linter.unusedVariables false
set_option linter.unusedSimpArgs false
structure IsE (w : World) (g : Nat) (mv : Value) (R : Int) (ov : Value) (o : List Int) (c : Int) (h : Nat) (l : Int) : Prop where
  blk : Blk w g 78 #[mv, .int .u32 R, ov, .int .u8 c, .int .i64 h, .int .u64 l]
  row : Kd.R (Kd.int .u8) 5 w (g + 1) (fun _ => True) ov o
theorem and24 {l : Int} (h0 : 0 ≤ l) (h1 : l < 8589934592) : bits .and .u64 l 16777215 = l % 16777216 :=
  bits_mask .u64 63 (by decide) (fun n h0 h1 => by simp [IntKind.wrap, IntKind.bits, IntKind.signed]; omega) 24 (by decide) l h0 (by omega)
theorem low_wrap {l : Int} (h0 : 0 ≤ l) (h1 : l < 8589934592) : IntKind.u64.wrap (bits .and .u64 l 16777215 * 256) = l % 16777216 * 256 := by
  rw [and24 h0 h1]
  simp [IntKind.wrap, IntKind.bits, IntKind.signed]
  omega
set_option maxHeartbeats 1000000 in
set_option maxRecDepth 100000 in
theorem shift_no (w : World) (g : Nat) (mv ov : Value) (R c l : Int) (o : List Int) (h : Nat) (hE : IsE w g mv R ov o c h l) (hl0 : 0 ≤ l) (hl1 : l < 8589934592) (hh2 : h ≤ 1000000) (hno : ¬ (l < 4278190080 ∨ 4294967296 ≤ l)) :
    Calls Try.prog 40 #[.pointer (some ⟨g, 2, none⟩)] w fun e w' => e = .returned (.tuple #[]) ∧ ∃ ov', IsE w' g mv R ov' (sh o c h l).1 (sh o c h l).2.1 (sh o c h l).2.2.1 (sh o c h l).2.2.2 ∧ Ft g [78, 5] w w' := by
  have b3 : w.cell? ⟨g, 4, none⟩ = some (.int .i64 h) := hE.blk.cell 4
  have b4 : w.cell? ⟨g, 5, none⟩ = some (.int .u64 l) := hE.blk.cell 5
  have f3 := hE.blk.frozen 4
  have f4 := hE.blk.frozen 5
  have d1 : decide (l < 4278190080) = false := decide_eq_false (by omega)
  have d2 : decide (4294967296 ≤ l) = false := decide_eq_false (by omega)
  go_enter Try.func40, Try.ntmps40
  go_wp2
  go_end0
  rw [low_wrap hl0 hl1]
  unfold sh
  rw [if_neg hno]
  have h1 := hE.blk.set_ 4 (.int .i64 (h + 1))
  have h2 := h1.set_ 5 (.int .u64 (l % 16777216 * 256))
  have hr := Kd.R_set (Kd.R_set hE.row hE.blk (by decide) 4 (.int .i64 (h + 1))) h1 (by decide) 5 (.int .u64 (l % 16777216 * 256))
  refine ⟨rfl, ov, ⟨?_, hr⟩, ((Ft.refl g [78, 5] w).setCell (p := ⟨g, 4, none⟩) hE.blk (by decide) (Nat.le_refl g) _).setCell (p := ⟨g, 5, none⟩) h1 (by decide) (Nat.le_refl g) _⟩
  exact h2
theorem info5 : (Try.prog.info? 5).map (fun i => (i.zero, i.size, i.bytes)) = some (some (.int .u8 0), (Kd.int .u8).sz, 1) := by kernel_rfl
theorem IsE.out {w0 w w1 : World} {g : Nat} {mv ov : Value} {R c l : Int} {o : List Int} {h : Nat} (hF : Ft g [78, 5] w0 w) (hE : IsE w g mv R ov o c h l) {v1 : Value} {xs : List Int} (hR1 : Kd.R (Kd.int .u8) 5 w1 (g + 1) (fun _ => True) v1 xs) (hg1 : w.grownBy w1 ov.ownBlock) :
    Blk w1 g 78 #[mv, .int .u32 R, ov, .int .u8 c, .int .i64 h, .int .u64 l] ∧ IsE (w1.setCell ⟨g, 2, none⟩ v1) g mv R v1 xs c h l ∧ Ft g [78, 5] w0 (w1.setCell ⟨g, 2, none⟩ v1) := by
  have hne : some g ≠ ov.ownBlock := Kd.R_ne hE.row hE.blk (by decide)
  have hB := hE.blk.grown hg1 hne
  obtain ⟨inner, ho⟩ := Kd.R_own hE.row
  have hF1 := hF.grown hg1 (fun k hk => by
    obtain ⟨h1, cs, h2⟩ := own_row ho k hk
    exact ⟨by omega, cs, 5, h2, by decide⟩)
  refine ⟨hB, ⟨?_, Kd.R_set hR1 hB (by decide) 2 v1⟩, hF1.setCell (p := ⟨g, 2, none⟩) hB (by decide) (Nat.le_refl g) v1⟩
  have := hB.set_ 2 v1
  exact this
theorem IsE.drew {w : World} {g : Nat} {mv ov : Value} {R c l : Int} {o : List Int} {h : Nat} (hE : IsE w g mv R ov o c h l) : IsE w.drew g mv R ov o c h l := ⟨hE.blk, hE.row⟩
theorem IsE.alloc {w : World} {g : Nat} {mv ov : Value} {R c l : Int} {o : List Int} {h : Nat} (hE : IsE w g mv R ov o c h l) (ob : Obj) : IsE (w.alloc ob) g mv R ov o c h l :=
  ⟨hE.blk.alloc ob, Kd.R_step hE.row fun k _ hk => Below.heap_alloc w ob k hk⟩
theorem IsE.set4 {w0 w : World} {g : Nat} {mv ov : Value} {R c l : Int} {o : List Int} {h : Nat} (hF : Ft g [78, 5] w0 w) (hE : IsE w g mv R ov o c h l) (h' : Nat) : IsE (w.setCell ⟨g, 4, none⟩ (.int .i64 h')) g mv R ov o c h' l ∧ Ft g [78, 5] w0 (w.setCell ⟨g, 4, none⟩ (.int .i64 h')) := by
  refine ⟨⟨?_, Kd.R_set hE.row hE.blk (by decide) 4 _⟩, hF.setCell (p := ⟨g, 4, none⟩) hE.blk (by decide) (Nat.le_refl g) _⟩
  have := hE.blk.set_ 4 (.int .i64 h')
  exact this
theorem IsE.set3 {w0 w : World} {g : Nat} {mv ov : Value} {R c l : Int} {o : List Int} {h : Nat} (hF : Ft g [78, 5] w0 w) (hE : IsE w g mv R ov o c h l) (c' : Int) : IsE (w.setCell ⟨g, 3, none⟩ (.int .u8 c')) g mv R ov o c' h l ∧ Ft g [78, 5] w0 (w.setCell ⟨g, 3, none⟩ (.int .u8 c')) := by
  refine ⟨⟨?_, Kd.R_set hE.row hE.blk (by decide) 3 _⟩, hF.setCell (p := ⟨g, 3, none⟩) hE.blk (by decide) (Nat.le_refl g) _⟩
  have := hE.blk.set_ 3 (.int .u8 c')
  exact this
theorem IsE.set5 {w0 w : World} {g : Nat} {mv ov : Value} {R c l : Int} {o : List Int} {h : Nat} (hF : Ft g [78, 5] w0 w) (hE : IsE w g mv R ov o c h l) (l' : Int) : IsE (w.setCell ⟨g, 5, none⟩ (.int .u64 l')) g mv R ov o c h l' ∧ Ft g [78, 5] w0 (w.setCell ⟨g, 5, none⟩ (.int .u64 l')) := by
  refine ⟨⟨?_, Kd.R_set hE.row hE.blk (by decide) 5 _⟩, hF.setCell (p := ⟨g, 5, none⟩) hE.blk (by decide) (Nat.le_refl g) _⟩
  have := hE.blk.set_ 5 (.int .u64 l')
  exact this
theorem u8w (x : Int) : IntKind.u8.wrap x = x % 256 := by simp [IntKind.wrap, IntKind.bits, IntKind.signed]
theorem rep_snoc (a : List Int) (n : Nat) (x : Int) : a ++ List.replicate n x ++ [x] = a ++ List.replicate (n + 1) x := by rw [List.append_assoc, List.replicate_succ']
set_option maxHeartbeats 2000000 in
set_option maxRecDepth 100000 in
theorem shift_yes (w : World) (g : Nat) (mv ov : Value) (R c l : Int) (o : List Int) (h : Nat) (hE : IsE w g mv R ov o c h l) (hc0 : 0 ≤ c) (hc1 : c < 256) (hl0 : 0 ≤ l) (hl1 : l < 8589934592) (hh1 : 1 ≤ h) (hh2 : h ≤ 1000000) (ho : o.length ≤ 1000000) (hyes : l < 4278190080 ∨ 4294967296 ≤ l) :
    Calls Try.prog 40 #[.pointer (some ⟨g, 2, none⟩)] w fun e w' => e = .returned (.tuple #[]) ∧ ∃ ov', IsE w' g mv R ov' (sh o c h l).1 (sh o c h l).2.1 (sh o c h l).2.2.1 (sh o c h l).2.2.2 ∧ Ft g [78, 5] w w' := by
  have b2 : w.cell? ⟨g, 2, none⟩ = some ov := hE.blk.cell 2
  have b2d : w.drew.cell? ⟨g, 2, none⟩ = some ov := hE.blk.cell 2
  have bc : w.cell? ⟨g, 3, none⟩ = some (.int .u8 c) := hE.blk.cell 3
  have bcd : w.drew.cell? ⟨g, 3, none⟩ = some (.int .u8 c) := hE.blk.cell 3
  have b3 : w.cell? ⟨g, 4, none⟩ = some (.int .i64 h) := hE.blk.cell 4
  have b4 : w.cell? ⟨g, 5, none⟩ = some (.int .u64 l) := hE.blk.cell 5
  have dh : decide (0 < h) = true := decide_eq_true (by omega)
  have dc : (decide (l < 4278190080) = true) ∨ (decide (l < 4278190080) = false ∧ decide (4294967296 ≤ l) = true) := by
    by_cases h1 : l < 4278190080
    · exact .inl (decide_eq_true h1)
    · exact .inr ⟨decide_eq_false h1, decide_eq_true (by omega)⟩
  have hRd : Kd.R (Kd.int .u8) 5 w.drew (g + 1) (fun _ => True) ov o := hE.row
  have hlt := hE.blk.lt
  have fd2 : w.drew.frozen? ⟨g, 2, none⟩ = false := hE.blk.frozen 2
  have hq0 : 0 ≤ l / 4294967296 := by omega
  have hq1 : l / 4294967296 ≤ 1 := by omega
  have hsh : sh o c h l = (o ++ [(c + l / 4294967296) % 256] ++ List.replicate (h - 1) ((255 + l / 4294967296) % 256), l / 16777216 % 256, 1, l % 16777216 * 256) := by
    unfold sh
    rw [if_pos hyes, if_pos (by omega)]
  have HSH := Lib.hid hsh
  clear hsh hyes
  rcases dc with d1 | ⟨d1, d2⟩
  all_goals
    go_enter Try.func40, Try.ntmps40
    go_upto_region 3 with fail
    generalize hq : l / 4294967296 = q at *
    have HQ := Lib.hid hq
    clear hq
    go_cut [2] (fun s2 wx => s2 = .int .u8 q ∧ ∃ ov1, IsE wx g mv R ov1 (o ++ [(c + q) % 256]) c h l ∧ Ft g [78, 5] w wx)
    case first =>
      go_region_law (refine Kd.R_append_step (Kd.int .u8) (w0 := w.drew) (W := w.drew) (g + 1) (by simp [Region.wanted]) (.tmp 30) (.tmp 37) 25 5 (.int .u8 0) 1 rfl Try.underlying25 info5 rfl (by decide) (by decide) ov o (IntKind.u8.wrap (c + q)) [.int .u8 (IntKind.u8.wrap (c + q))] (fun _ => True) (fun _ => False) (by rfl) (by rfl) rfl (fun _ hk => hk.elim) (fun _ _ => trivial) hRd (Below.refl _ _) (by simp; omega) (by omega) ?_; intro v1 w1 hR1 hb1 hg1 hat1; have hO1 := IsE.out (w := w.drew) ((Ft.refl g [78, 5] w).drew) hE.drew hR1 hg1; have x2 : w1.cell? ⟨g, 2, none⟩ = some ov := hO1.1.cell 2; have xf2 : w1.frozen? ⟨g, 2, none⟩ = false := hO1.1.frozen 2; obtain ⟨A1, c1, e1⟩ := Kd.R_slice hR1; subst e1)
      all_goals
        go_wp2_with fail
        go_meet
        have hO2 := hO1.2
        simp only [List.length_append, List.length_singleton, u8w] at hO2
        exact ⟨rfl, _, hO2.1, hO2.2⟩
    case rest =>
      obtain ⟨rfl, ov1, hE1, hF1⟩ := hcut
      clear hE b2 b2d bc bcd b3 b4 dh hRd fd2 d1
      go_wp2_with fail
      go_loopg [] (h - 1) (fun kq wx => kq ≤ h - 1 ∧ ∃ ov2, IsE wx g mv R ov2 (o ++ [(c + q) % 256] ++ List.replicate (h - 1 - kq) ((255 + q) % 256)) c (kq + 1) l ∧ Ft g [78, 5] w wx)
      case atStart => exact ⟨Nat.le_refl _, ov1, by rw [Nat.sub_self, List.replicate_zero, List.append_nil, show h - 1 + 1 = h by omega]; exact hE1, hF1⟩
      case round =>
        clear hE1 hF1
        obtain ⟨hkq, ov2, hE2, hF2⟩ := hrel
        have y2 : wr.cell? ⟨g, 2, none⟩ = some ov2 := hE2.blk.cell 2
        have y3 : wr.cell? ⟨g, 3, none⟩ = some (.int .u8 c) := hE2.blk.cell 3
        have y4 : wr.cell? ⟨g, 4, none⟩ = some (.int .i64 ((gk + 1 : Nat) : Int)) := hE2.blk.cell 4
        have y5 : wr.cell? ⟨g, 5, none⟩ = some (.int .u64 l) := hE2.blk.cell 5
        have z3 := hE2.blk.frozen 3
        have z4 := hE2.blk.frozen 4
        have z5 := hE2.blk.frozen 5
        have hlen : (o ++ [(c + q) % 256] ++ List.replicate (h - 1 - gk) ((255 + q) % 256)).length ≤ 2000002 := by
          rw [List.length_append, List.length_append, List.length_replicate, List.length_singleton]; omega
        generalize hO : o ++ [(c + q) % 256] ++ List.replicate (h - 1 - gk) ((255 + q) % 256) = O at *
        have HO := Lib.hid hO
        clear hO
        by_cases hk : gk = 0
        · subst hk
          go_wp2_with fail
          go_end0
          have h1 := IsE.set4 hF2 hE2 0
          have h2 := IsE.set3 h1.2 h1.1 (l / 16777216 % 256)
          have h3 := IsE.set4 h2.2 h2.1 1
          have h4 := IsE.set5 h3.2 h3.1 (l % 16777216 * 256)
          refine ⟨rfl, ov2, ?_⟩
          rw [low_wrap hl0 hl1, HSH.out]
          have ho := HO.out
          rw [Nat.sub_zero] at ho
          rw [ho]
          exact h4
        · obtain ⟨gm, rfl⟩ : ∃ m, gk = m + 1 := ⟨gk - 1, by omega⟩
          have z2 := hE2.blk.frozen 2
          have hlt2 := hE2.blk.lt
          go_wp2_with (first | (at_builtin; go_must (refine Kd.R_append (Kd.int .u8) (w0 := wr) (W := wr) (g + 1) rfl (.tmp 57) (.tmp 60) 25 5 (.int .u8 0) 1 rfl Try.underlying25 info5 rfl (by decide) (by decide) ov2 O ((255 + q) % 256) [.int .u8 ((255 + q) % 256)] (fun _ => True) (fun _ => False) rfl rfl rfl (fun _ hk => hk.elim) (fun _ _ => trivial) hE2.row (Below.refl _ _) (by omega) (by omega) ?_); intro v1 w1 hR1 hb1 hg1 hat1; have hO1 := IsE.out hF2 hE2 hR1 hg1; have x2 : w1.cell? ⟨g, 2, none⟩ = some ov2 := hO1.1.cell 2; have xf2 : w1.frozen? ⟨g, 2, none⟩ = false := hO1.1.frozen 2; obtain ⟨A1, c1, e1⟩ := Kd.R_slice hR1; subst e1; have x4 : w1.cell? ⟨g, 4, none⟩ = some (.int .i64 ((gm + 1 + 1 : Nat) : Int)) := hO1.1.cell 4; have xf4 : w1.frozen? ⟨g, 4, none⟩ = false := hO1.1.frozen 4))
          go_roundg gm
          case rel =>
            have h1 := hO1.2
            simp only [List.length_append, List.length_singleton] at h1
            have h2 := IsE.set4 h1.2 h1.1 (gm + 1)
            have e : o ++ [(c + q) % 256] ++ List.replicate (h - 1 - gm) ((255 + q) % 256) = O ++ [(255 + q) % 256] := by
              rw [← HO.out, rep_snoc, show h - 1 - (gm + 1) + 1 = h - 1 - gm by omega]
            rw [e]
            exact ⟨by omega, _, h2.1, h2.2⟩
          case measure => omega
theorem shift_any (w : World) (g : Nat) (mv ov : Value) (R c l : Int) (o : List Int) (h : Nat) (hE : IsE w g mv R ov o c h l) (hc0 : 0 ≤ c) (hc1 : c < 256) (hl0 : 0 ≤ l) (hl1 : l < 8589934592) (hh1 : 1 ≤ h) (hh2 : h ≤ 1000000) (ho : o.length ≤ 1000000) :
    Calls Try.prog 40 #[.pointer (some ⟨g, 2, none⟩)] w fun e w' => e = .returned (.tuple #[]) ∧ ∃ ov', IsE w' g mv R ov' (sh o c h l).1 (sh o c h l).2.1 (sh o c h l).2.2.1 (sh o c h l).2.2.2 ∧ Ft g [78, 5] w w' := by
  by_cases hy : l < 4278190080 ∨ 4294967296 ≤ l
  · exact shift_yes w g mv ov R c l o h hE hc0 hc1 hl0 hl1 hh1 hh2 ho hy
  · exact shift_no w g mv ov R c l o h hE hl0 hl1 hh2 hy
end Go.Proofs.Ythegimfokcdehaa.CW
namespace Go.Proofs.Ythegimfokcdehaa.CW
open Go Go.RowKit Go.Proofs.Ythegimfokcdehaa.Mem Go.Proofs.Ythegimfokcdehaa.CM Go.Proofs.Ythegimfokcdehaa.MW Go.Proofs.Ythegimfokcdehaa.PCod Go.Proofs.YthegimfokcdehaaW.PrintWords Go.Proofs.YthegimfokcdehaaW.PrintLast Go.Proofs.YthegimfokcdehaaW.PrintMore
attribute [local go_sem] max2_int min2_int max_two min_two max_three min_three max_four min_four
set_option linter.unusedVariables false
set_option linter.unusedSimpArgs false
def isP (k : Int) : Bool := decide (isPlain k)
theorem isP_iff {k : Int} : isP k = true ↔ isPlain k := by unfold isP; exact decide_eq_true_iff
def PlainPost (k : Int) (w : World) (e : Ending) (w' : World) : Prop := ∃ n, e = .returned (.tuple #[.int .i64 n, .bool (isP k)]) ∧ (isPlain k → n = CM.bits k) ∧ w = w'
theorem PlainPost.no {k n : Int} {w : World} (h : ¬ isPlain k) : PlainPost k w (.returned (.tuple #[.int .i64 n, .bool false])) w :=
  ⟨n, by rw [show isP k = false from Bool.eq_false_iff.2 fun e => h (isP_iff.1 e)], fun e => absurd e h, rfl⟩
theorem PlainPost.yes {k n : Int} {w : World} (h : isPlain k) (e : n = CM.bits k) : PlainPost k w (.returned (.tuple #[.int .i64 n, .bool true])) w :=
  ⟨n, by rw [show isP k = true from isP_iff.2 h], fun _ => e, rfl⟩
theorem plain30 (w : World) (k : Int) (h0 : -9223372036854775808 ≤ k) (h1 : k < 9223372036854775808) :
    Calls Try.prog 30 #[.int .i64 k] w (PlainPost k w) := by
  by_cases hk : k < 0
  · have d1 : decide (k < 0) = true := decide_eq_true hk
    by_cases h2 : -16 ≤ k
    · have d2 : decide (-16 ≤ k) = true := decide_eq_true h2
      go_enter Try.func30, Try.ntmps30
      go_wp2
      go_ret2
      refine PlainPost.yes ⟨hk, h2⟩ ?_
      have hb := bits_bound hk h2
      show wrap64 (CM.bits k) = CM.bits k
      unfold wrap64
      omega
    · have d2 : decide (-16 ≤ k) = false := decide_eq_false h2
      have hn : ¬ isPlain k := fun h => h2 h.2
      have HN := Lib.hid hn
      clear hn
      go_enter Try.func30, Try.ntmps30
      go_wp2
      all_goals
        go_ret2
        exact PlainPost.no HN.out
  · have d1 : decide (k < 0) = false := decide_eq_false hk
    have hn : ¬ isPlain k := fun h => hk h.1
    have HN := Lib.hid hn
    clear hn
    go_enter Try.func30, Try.ntmps30
    go_wp2
    all_goals
      go_ret2
      exact PlainPost.no HN.out
def ptrK : Kd Nat := Kd.scalar (fun p => Value.pointer (some ⟨p, 0, none⟩)) (fun _ => rfl)
structure IsMs (w : World) (B : Nat) (mv : Value) (ps : List (Nat × Nat)) (C : List (List Int)) : Prop where
  len : ps.length = C.length
  row : Kd.R ptrK 87 w B (fun _ => True) mv (ps.map Prod.fst)
  mod : ∀ i, i < C.length → IsM w (ps.getD i (0, 0)).1 (ps.getD i (0, 0)).2 (C.getD i []) (C.getD i []).sum ∧ B ≤ (ps.getD i (0, 0)).1 ∧ B ≤ (ps.getD i (0, 0)).2
  inj : ∀ i j, i < C.length → j < C.length → i ≠ j → (ps.getD i (0, 0)).1 ≠ (ps.getD j (0, 0)).1 ∧ (ps.getD i (0, 0)).2 ≠ (ps.getD j (0, 0)).2
theorem IsMs.slice {w : World} {B : Nat} {mv : Value} {ps : List (Nat × Nat)} {C : List (List Int)} (h : IsMs w B mv ps C) : ∃ A c, mv = .slice A C.length c := by
  obtain ⟨A, c, e⟩ := Kd.R_slice h.row
  rw [List.length_map, h.len] at e
  exact ⟨A, c, e⟩
theorem IsMs.at_ {w : World} {B : Nat} {mv : Value} {ps : List (Nat × Nat)} {C : List (List Int)} (h : IsMs w B mv ps C) {i : Nat} (hi : i < C.length) :
    ∃ gm c, mv = .slice (some ⟨gm, 0, none⟩) C.length c ∧ w.cell? ⟨gm, i, none⟩ = some (.pointer (some ⟨(ps.getD i (0, 0)).1, 0, none⟩)) := by
  obtain ⟨A, c, e, hl, hC⟩ := Kd.R_reads h.row
  have hl := h.len
  obtain ⟨ad, cs, hA, hcl, hK, hcell⟩ := Kd.C_get hC 0 (i : Int) (by omega) (by rw [List.length_map]; omega)
  have hcs : cs = [Value.pointer (some ⟨((ps.map Prod.fst).getD i 0), 0, none⟩)] := hK
  have h0 := hcell 0 (Value.pointer (some ⟨((ps.map Prod.fst).getD i 0), 0, none⟩)) (by rw [hcs]; rfl)
  rw [Int.toNat_natCast, show i * ptrK.sz + 0 = i by simp [ptrK, Kd.scalar]] at h0
  have hg : (ps.map Prod.fst).getD i 0 = (ps.getD i (0, 0)).1 := by
    rw [List.getD_eq_getElem?_getD, List.getD_eq_getElem?_getD, List.getElem?_map, List.getElem?_eq_getElem (by omega)]
    rfl
  rw [hg] at h0
  subst hA
  obtain ⟨inner, ho⟩ := Kd.R_own h.row
  rcases ho.2 with ⟨hv, hn⟩ | ⟨g, cap, cur, hv, _⟩
  · rw [List.length_map] at hn; omega
  · rw [hv] at e
    injection e with e1 e2 e3
    injection e1 with e1
    subst e1
    refine ⟨g, cap, by rw [hv, List.length_map, hl], ?_⟩
    have : (⟨g, 0, none⟩ : Addr).add i = ⟨g, i, none⟩ := by unfold Addr.add; split <;> simp_all
    rw [this] at h0
    exact h0
theorem Ft.R {α : Type} {d : Kd α} {e base B : Nat} {ok : Nat → Prop} {v : Value} {xs : List α} {ts : List TypeId} {w w' : World} (h : Ft B ts w w') (hR : Kd.R d e w base ok v xs) (ht : ∀ q, q ∈ e :: d.E → q ∉ ts) : Kd.R d e w' base ok v xs := by
  refine Kd.R_mono (Kd.R_move (Kd.R_bound hR) (fun k hk => ?_)) (fun _ hk => hk.1)
  obtain ⟨_, _, hlt, q, hq, cells, hc⟩ := hk
  exact h.keep k hlt (.inr ⟨cells, q, hc, ht q hq⟩)
theorem IsM.ft {B : Nat} {ts : List TypeId} {w w' : World} {bp bs : Nat} {cs : List Int} {tot : Int} (h : IsM w bp bs cs tot) (hF : Ft B ts w w') (h1 : 103 ∉ ts) (h2 : 3 ∉ ts) : IsM w' bp bs cs tot := ⟨hF.blk h.head h1, hF.blk h.row h2⟩
theorem IsMs.ft {B B' : Nat} {ts : List TypeId} {w w' : World} {mv : Value} {ps : List (Nat × Nat)} {C : List (List Int)} (h : IsMs w B mv ps C) (hF : Ft B' ts w w') (h1 : 103 ∉ ts) (h2 : 3 ∉ ts) (h3 : 87 ∉ ts) : IsMs w' B mv ps C :=
  ⟨h.len, Ft.R hF h.row (fun q hq => by
    have : q = 87 := by simpa [ptrK, Kd.scalar] using hq
    rw [this]
    exact h3), fun i hi => ⟨CW.IsM.ft (h.mod i hi).1 hF h1 h2, (h.mod i hi).2⟩, h.inj⟩
theorem ret_int {k : IntKind} {a b : Int} (h : a = b) : Ending.returned (.int k a) = .returned (.int k b) := by rw [h]
theorem whole_plain (C : List (List Int)) {k : Int} (h : isPlain k) : whole C k = CM.bits k := by unfold whole; rw [if_pos h]
theorem whole_out (C : List (List Int)) {k : Int} (h : ¬ isPlain k) (h2 : ¬ (0 ≤ k ∧ k < C.length)) : whole C k = 0 := by unfold whole; rw [if_neg h, if_neg h2]
theorem whole_at (C : List (List Int)) {i : Nat} (hi : i < C.length) : whole C (i : Int) = (C.getD i []).sum := by
  unfold whole
  rw [if_neg (fun h => by have := h.1; omega), if_pos ⟨by omega, by omega⟩, Int.toNat_natCast]
set_option maxHeartbeats 1000000 in
set_option maxRecDepth 100000 in
theorem whole32 (w : World) (g B : Nat) (mv : Value) (ps : List (Nat × Nat)) (C : List (List Int)) (k : Int) (h0 : -9223372036854775808 ≤ k) (h1 : k < 9223372036854775808) (hm : w.cell? ⟨g, 0, none⟩ = some mv) (hM : IsMs w B mv ps C) (hl : C.length ≤ 1000) :
    Calls Try.prog 32 #[.pointer (some ⟨g, 0, none⟩), .int .i64 k] w fun e w' => e = .returned (.int .i64 (whole C k)) ∧ w = w' := by
  cases hp : isP k with
  | true =>
    have hb := isP_iff.1 hp
    have HW := Lib.hid (whole_plain C hb)
    have HB := Lib.hid hb
    have HP := Lib.hid hp
    clear hp hb
    go_enter Try.func32, Try.ntmps32
    go_wp2_with (go_at_call 30; refine (plain30 _ _ h0 h1).mono ?_; rintro e w' ⟨n, rfl, hn, rfl⟩; rw [HP.out]; have hn2 := hn HB.out; clear hn; subst hn2)
    go_ret
    exact ⟨ret_int HW.out.symm, rfl⟩
  | false =>
    have hb : ¬ isPlain k := fun h => by rw [isP_iff.2 h] at hp; cases hp
    have HP := Lib.hid hp
    clear hp
    by_cases hk : 0 ≤ k ∧ k < C.length
    · obtain ⟨i, rfl⟩ := Int.eq_ofNat_of_zero_le hk.1
      have hi : i < C.length := by omega
      obtain ⟨gm, c, rfl, hc⟩ := hM.at_ hi
      have hmod := (hM.mod i hi).1
      have HW := Lib.hid (whole_at C hi)
      generalize (ps.getD i (0, 0)).1 = bp at *
      generalize (ps.getD i (0, 0)).2 = bs at *
      generalize C.getD i [] = ci at *
      have d1 : decide ((i : Int) < 0) = false := decide_eq_false (by omega)
      have d2 : decide ((C.length : Int) ≤ (i : Int)) = false := decide_eq_false (by omega)
      have d3 : decide (C.length ≤ i) = false := decide_eq_false (by omega)
      have d4 : decide (i < C.length) = true := decide_eq_true hi
      clear hb hk hM
      go_enter Try.func32, Try.ntmps32
      go_wp2_with (first | (go_at_call 30; refine (plain30 _ _ h0 h1).mono ?_; rintro e w' ⟨n, rfl, hn, rfl⟩; rw [HP.out]; clear hn) | (go_at_call 46; refine (total_calls _ _ _ _ _ hmod).mono ?_; rintro e w' ⟨rfl, rfl⟩))
      go_ret
      exact ⟨ret_int HW.out.symm, rfl⟩
    · have HW := Lib.hid (whole_out C hb hk)
      obtain ⟨A, c, rfl⟩ := hM.slice
      clear hb hM
      by_cases hn : k < 0
      · have d1 : decide (k < 0) = true := decide_eq_true hn
        go_enter Try.func32, Try.ntmps32
        go_wp2_with (go_at_call 30; refine (plain30 _ _ h0 h1).mono ?_; rintro e w' ⟨n, rfl, hn, rfl⟩; rw [HP.out]; clear hn)
        go_ret
        exact ⟨ret_int HW.out.symm, rfl⟩
      · have d1 : decide (k < 0) = false := decide_eq_false hn
        have d2 : decide ((C.length : Int) ≤ k) = true := decide_eq_true (by omega)
        go_enter Try.func32, Try.ntmps32
        go_wp2_with (go_at_call 30; refine (plain30 _ _ h0 h1).mono ?_; rintro e w' ⟨n, rfl, hn, rfl⟩; rw [HP.out]; clear hn)
        go_ret
        exact ⟨ret_int HW.out.symm, rfl⟩
def SharePost (C : List (List Int)) (k s : Int) (w : World) (e : Ending) (w' : World) : Prop :=
  ∃ a n, e = .returned (.tuple #[.int .i64 a, .int .i64 n, .bool (share C k s).isSome]) ∧ (∀ p, share C k s = some p → a = p.1 ∧ n = p.2) ∧ Below w.heap.size w w'
theorem SharePost.no {C : List (List Int)} {k s a n : Int} {w w' : World} (h : share C k s = none) (hb : Below w.heap.size w w') : SharePost C k s w (.returned (.tuple #[.int .i64 a, .int .i64 n, .bool false])) w' :=
  ⟨a, n, by rw [h]; rfl, fun p hp => (by rw [h] at hp; cases hp), hb⟩
theorem SharePost.yes {C : List (List Int)} {k s a n : Int} {w w' : World} (h : share C k s = some (a, n)) (hb : Below w.heap.size w w') : SharePost C k s w (.returned (.tuple #[.int .i64 a, .int .i64 n, .bool true])) w' :=
  ⟨a, n, by rw [h]; rfl, fun p hp => (by rw [h] at hp; cases hp; exact ⟨rfl, rfl⟩), hb⟩
theorem share_plain {C : List (List Int)} {k s : Int} (h : isPlain k) : share C k s = if 0 ≤ s ∧ s < CM.bits k then some (s, 1) else none := by unfold share; rw [if_pos h]
theorem share_out {C : List (List Int)} {k s : Int} (h : ¬ isPlain k) (h2 : ¬ (0 ≤ k ∧ k < C.length)) : share C k s = none := by unfold share; rw [if_neg h, if_neg h2]
theorem share_at {C : List (List Int)} {i : Nat} {s : Int} (hi : i < C.length) : share C (i : Int) s = if 0 ≤ s ∧ s < (C.getD i []).length then some (((C.getD i []).take s.toNat).sum, (C.getD i []).getD s.toNat 0) else none := by
  unfold share
  rw [if_neg (fun h => by have := h.1; omega), if_pos ⟨by omega, by omega⟩, Int.toNat_natCast]
set_option maxHeartbeats 1000000 in
set_option maxRecDepth 100000 in
theorem share34_plain (w : World) (g : Nat) (C : List (List Int)) (k s : Int) (h0 : -9223372036854775808 ≤ k) (h1 : k < 9223372036854775808) (hp : isP k = true) :
    Calls Try.prog 34 #[.pointer (some ⟨g, 0, none⟩), .agg #[.int .i64 k, .int .i64 s]] w (SharePost C k s w) := by
  have hb := isP_iff.1 hp
  have hsh := share_plain (C := C) (s := s) hb
  have HSH := Lib.hid hsh
  have HB := Lib.hid hb
  have HP := Lib.hid hp
  clear hp hb hsh
  have hB := (Below.refl w.heap.size w).alloc (Nat.le_refl _) (.cells #[.int .i64 k, .int .i64 s] 41 (0, 0))
  by_cases hs : 0 ≤ s
  · have d0 : decide (0 ≤ s) = true := decide_eq_true hs
    go_enter Try.func34, Try.ntmps34
    go_wp2_with (go_at_call 30; refine (plain30 _ _ h0 h1).mono ?_; rintro e w' ⟨n, rfl, hn, rfl⟩; rw [HP.out]; have hn2 := hn HB.out; clear hn; subst hn2)
    go_quiet (fail)
    go_wp2
    go_ret3
    have hsh := HSH.out
    by_cases h2 : s < CM.bits k
    · rw [if_pos ⟨hs, h2⟩] at hsh
      rw [decide_eq_true h2]
      exact SharePost.yes hsh (below_dN hB _)
    · rw [if_neg (fun h => h2 h.2)] at hsh
      rw [decide_eq_false h2]
      exact SharePost.no hsh (below_dN hB _)
  · have d0 : decide (0 ≤ s) = false := decide_eq_false hs
    go_enter Try.func34, Try.ntmps34
    go_wp2_with (go_at_call 30; refine (plain30 _ _ h0 h1).mono ?_; rintro e w' ⟨n, rfl, hn, rfl⟩; rw [HP.out]; have hn2 := hn HB.out; clear hn; subst hn2)
    go_quiet (fail)
    go_wp2
    go_ret3
    have hsh := HSH.out
    rw [if_neg (fun h => by have := h.1; omega)] at hsh
    exact SharePost.no hsh (below_dN hB _)
set_option maxHeartbeats 1000000 in
set_option maxRecDepth 100000 in
theorem share34_out (w : World) (g B : Nat) (mv : Value) (ps : List (Nat × Nat)) (C : List (List Int)) (k s : Int) (h0 : -9223372036854775808 ≤ k) (h1 : k < 9223372036854775808) (hm : w.cell? ⟨g, 0, none⟩ = some mv) (hM : IsMs w B mv ps C) (hl : C.length ≤ 1000) (hp : isP k = false) (hk : ¬ (0 ≤ k ∧ k < C.length)) :
    Calls Try.prog 34 #[.pointer (some ⟨g, 0, none⟩), .agg #[.int .i64 k, .int .i64 s]] w (SharePost C k s w) := by
  have hb : ¬ isPlain k := fun h => by rw [isP_iff.2 h] at hp; cases hp
  have HSH := Lib.hid (share_out (s := s) hb hk)
  have HP := Lib.hid hp
  obtain ⟨A, c, rfl⟩ := hM.slice
  have hlt := World.block_lt_of_cell? w _ hm
  clear hp hb hM
  have hB := (Below.refl w.heap.size w).alloc (Nat.le_refl _) (.cells #[.int .i64 k, .int .i64 s] 41 (0, 0))
  by_cases hn : k < 0
  · have d1 : decide (k < 0) = true := decide_eq_true hn
    go_enter Try.func34, Try.ntmps34
    go_wp2_with (go_at_call 30; refine (plain30 _ _ h0 h1).mono ?_; rintro e w' ⟨n, rfl, hn, rfl⟩; rw [HP.out]; clear hn)
    go_quiet (fail)
    go_wp2
    go_ret3
    exact SharePost.no HSH.out (below_dN hB _)
  · have d1 : decide (k < 0) = false := decide_eq_false hn
    have d2 : decide ((C.length : Int) ≤ k) = true := decide_eq_true (by omega)
    clear hk
    go_enter Try.func34, Try.ntmps34
    go_wp2_with (go_at_call 30; refine (plain30 _ _ h0 h1).mono ?_; rintro e w' ⟨n, rfl, hn, rfl⟩; rw [HP.out]; clear hn)
    go_quiet (fail)
    go_wp2
    go_ret3
    exact SharePost.no HSH.out (below_dN hB _)
set_option maxHeartbeats 1000000 in
set_option maxRecDepth 100000 in
theorem share34_at (w : World) (g B : Nat) (mv : Value) (ps : List (Nat × Nat)) (C : List (List Int)) (i : Nat) (s : Int) (hm : w.cell? ⟨g, 0, none⟩ = some mv) (hM : IsMs w B mv ps C) (hMs : Mods C) (hl : C.length ≤ 1000) (hi : i < C.length) :
    Calls Try.prog 34 #[.pointer (some ⟨g, 0, none⟩), .agg #[.int .i64 (i : Int), .int .i64 s]] w (SharePost C (i : Int) s w) := by
  have hp : isP (i : Int) = false := Bool.eq_false_iff.2 fun h => by have := (isP_iff.1 h).1; omega
  have HP := Lib.hid hp
  have HSH := Lib.hid (share_at (s := s) hi)
  obtain ⟨gm, c, rfl, hc⟩ := hM.at_ hi
  have hmod := (hM.mod i hi).1
  have hinv := (hMs.at_ hi).1.inv
  have hlt := World.block_lt_of_cell? w _ hm
  have hlt2 := World.block_lt_of_cell? w _ hc
  generalize (ps.getD i (0, 0)).1 = bp at *
  generalize (ps.getD i (0, 0)).2 = bs at *
  generalize C.getD i [] = ci at *
  have hcl := hinv.2.2
  have d1 : decide ((i : Int) < 0) = false := decide_eq_false (by omega)
  have d2 : decide ((C.length : Int) ≤ (i : Int)) = false := decide_eq_false (by omega)
  have d3 : decide (C.length ≤ i) = false := decide_eq_false (by omega)
  have d4 : decide (i < C.length) = true := decide_eq_true hi
  have d5 : 0 ≤ (i : Int) := by omega
  have d6 : (i : Int) < (C.length : Int) := by omega
  have hB := (Below.refl w.heap.size w).alloc (Nat.le_refl _) (.cells #[.int .i64 i, .int .i64 s] 41 (0, 0))
  have hm2 := hmod.head.alloc (.cells #[.int .i64 i, .int .i64 s] 41 (0, 0))
  have hmodB : ∀ n, IsM ((w.alloc (.cells #[.int .i64 i, .int .i64 s] 41 (0, 0))).drewN n) bp bs ci ci.sum := fun n => ⟨hmod.head.alloc _, hmod.row.alloc _⟩
  have HMB := Lib.hid hmodB
  clear hp hM hm2 hmodB
  by_cases hs : 0 ≤ s ∧ s < ci.length
  · obtain ⟨t, rfl⟩ := Int.eq_ofNat_of_zero_le hs.1
    have ht : t < ci.length := by omega
    go_enter Try.func34, Try.ntmps34
    go_wp2_with (go_at_call 30; refine (plain30 _ _ (by omega) (by omega)).mono ?_; rintro e w' ⟨n, rfl, hn, rfl⟩; rw [HP.out]; clear hn)
    go_quiet (fail)
    go_wp2_with fail
    go_quiet ((go_at_call 48; exact quiet_more (share_ok _ bp bs ci ci.sum (HMB.out _) hinv t ht)))
    go_wp2
    go_ret3
    have hsh := HSH.out
    rw [if_pos hs, Int.toNat_natCast, List.getD_eq_getElem?_getD, List.getElem?_eq_getElem ht, Option.getD_some] at hsh
    exact SharePost.yes hsh (below_dN hB _)
  · have hs' : s < 0 ∨ (ci.length : Int) ≤ s := by omega
    go_enter Try.func34, Try.ntmps34
    go_wp2_with (go_at_call 30; refine (plain30 _ _ (by omega) (by omega)).mono ?_; rintro e w' ⟨n, rfl, hn, rfl⟩; rw [HP.out]; clear hn)
    go_quiet (fail)
    go_wp2_with fail
    go_quiet ((go_at_call 48; exact quiet_more (share_bad _ bp bs ci ci.sum (HMB.out _) s hs')))
    go_wp2
    go_ret3
    have hsh := HSH.out
    rw [if_neg (by omega)] at hsh
    exact SharePost.no hsh (below_dN hB _)
theorem share34 (w : World) (g B : Nat) (mv : Value) (ps : List (Nat × Nat)) (C : List (List Int)) (k s : Int) (h0 : -9223372036854775808 ≤ k) (h1 : k < 9223372036854775808) (hm : w.cell? ⟨g, 0, none⟩ = some mv) (hM : IsMs w B mv ps C) (hMs : Mods C) (hl : C.length ≤ 1000) :
    Calls Try.prog 34 #[.pointer (some ⟨g, 0, none⟩), .agg #[.int .i64 k, .int .i64 s]] w (SharePost C k s w) := by
  cases hp : isP k with
  | true => exact share34_plain w g C k s h0 h1 hp
  | false =>
    by_cases hk : 0 ≤ k ∧ k < C.length
    · obtain ⟨i, rfl⟩ := Int.eq_ofNat_of_zero_le hk.1
      exact share34_at w g B mv ps C i s hm hM hMs hl (by omega)
    · exact share34_out w g B mv ps C k s h0 h1 hm hM hl hp hk
theorem IsMs.counted {w w' : World} {B : Nat} {mv : Value} {ps : List (Nat × Nat)} {C : List (List Int)} (h : IsMs w B mv ps C) {i : Nat} (hi : i < C.length) {cs : List Int} (hm : IsM w' (ps.getD i (0, 0)).1 (ps.getD i (0, 0)).2 cs cs.sum) (ho : Only w w' (ps.getD i (0, 0)).1 (ps.getD i (0, 0)).2) :
    IsMs w' B mv ps (C.set i cs) ∧ Ft B [103, 3] w w' := by
  obtain ⟨h0, hb1, hb2⟩ := h.mod i hi
  have hF : Ft B [103, 3] w w' := (Ft.refl B _ w).only ho h0.head h0.row (by decide) (by decide) hb1 hb2
  refine ⟨⟨by rw [List.length_set]; exact h.len, Ft.R hF h.row (fun q hq => by
    have : q = 87 := by simpa [ptrK, Kd.scalar] using hq
    rw [this]
    decide), fun j hj => ?_, fun j k hj hk => h.inj j k (by simpa using hj) (by simpa using hk)⟩, hF⟩
  rw [List.length_set] at hj
  obtain ⟨hj0, hj1, hj2⟩ := h.mod j hj
  refine ⟨?_, hj1, hj2⟩
  by_cases e : i = j
  · subst e
    have : (C.set i cs).getD i [] = cs := by rw [List.getD_eq_getElem?_getD, List.getElem?_set, if_pos rfl, if_pos hi]; rfl
    rw [this]
    exact hm
  · have : (C.set i cs).getD j [] = C.getD j [] := by rw [List.getD_eq_getElem?_getD, List.getElem?_set, if_neg e, ← List.getD_eq_getElem?_getD]
    rw [this]
    obtain ⟨n1, n2⟩ := h.inj j i hj hi (Ne.symm e)
    exact ⟨hj0.head.only ho n1 (hj0.head.ne_ h0.row (by decide)), hj0.row.only ho (hj0.row.ne_ h0.head (by decide)) n2⟩
theorem count_one (w : World) (bp bs : Nat) (cs : List Int) (n : Nat) (h : IsM w bp bs cs cs.sum) (hok : Ok n cs) (x : Int) (g : Nat) (hg : g < w.heap.size) (h1 : g ≠ bp) (h2 : g ≠ bs) (hc : w.cell? ⟨g, 0, none⟩ = some (.int .i64 x)) (h0 : 0 ≤ x) (hn : x < n) :
    Calls Try.prog 51 #[.pointer (some ⟨bp, 0, none⟩), .slice (some ⟨g, 0, none⟩) 1 1] w fun e w' => e = .returned (.int .i64 0) ∧ IsM w' bp bs (cntI cs x) (cntI cs x).sum ∧ Only w w' bp bs :=
  count_ok w bp bs cs n h hok (some ⟨g, 0, none⟩) [x] 1 (by simp [maxLen]) (fun i hi => by
    obtain rfl : i = 0 := by simpa using hi
    exact ⟨_, rfl, hg, h1, h2, hc⟩) (fun y hy => by
    rw [List.mem_singleton] at hy
    subst hy
    exact ⟨h0, hn⟩)
set_option maxHeartbeats 2000000 in
set_option maxRecDepth 100000 in
theorem count41_at (w : World) (g B : Nat) (mv : Value) (ps : List (Nat × Nat)) (C : List (List Int)) (i : Nat) (s : Int) (hm : w.cell? ⟨g, 0, none⟩ = some mv) (hM : IsMs w B mv ps C) (hMs : Mods C) (hl : C.length ≤ 1000) (hi : i < C.length) (hs0 : 0 ≤ s) (hs1 : s < (C.getD i []).length) :
    Calls Try.prog 41 #[.pointer (some ⟨g, 0, none⟩), .agg #[.int .i64 (i : Int), .int .i64 s]] w fun e w' => e = .returned (.tuple #[]) ∧ IsMs w' B mv ps (cntC C (i : Int) s) ∧ Ft B [103, 3] w w' := by
  obtain ⟨gm, c, rfl, hc⟩ := hM.at_ hi
  have hmod := (hM.mod i hi).1
  have hok := (hMs.at_ hi).1
  have hlt := World.block_lt_of_cell? w _ hm
  have hlt2 := World.block_lt_of_cell? w _ hc
  have hB : Below w.heap.size w (w.alloc (.cells #[.int .i64 i, .int .i64 s] 41 (0, 0))) := (Below.refl w.heap.size w).alloc (Nat.le_refl _) _
  have q0 : (w.alloc (.cells #[.int .i64 i, .int .i64 s] 41 (0, 0))).drew.cell? ⟨g, 0, none⟩ = some (.slice (some ⟨gm, 0, none⟩) C.length c) := (hB.cell (p := ⟨g, 0, none⟩) hlt).trans hm
  have q3 : (w.alloc (.cells #[.int .i64 i, .int .i64 s] 41 (0, 0))).drew.cell? ⟨gm, i, none⟩ = some (.pointer (some ⟨(ps.getD i (0, 0)).1, 0, none⟩)) := (hB.cell (p := ⟨gm, i, none⟩) hlt2).trans hc
  have q1 : (w.alloc (.cells #[.int .i64 i, .int .i64 s] 41 (0, 0))).drew.cell? ⟨w.heap.size, 0, none⟩ = some (.int .i64 i) := (Blk.here w 41 #[.int .i64 i, .int .i64 s]).cell 0
  have q2 : (w.alloc (.cells #[.int .i64 i, .int .i64 s] 41 (0, 0))).drew.cell? ⟨w.heap.size, 1, none⟩ = some (.int .i64 s) := (Blk.here w 41 #[.int .i64 i, .int .i64 s]).cell 1
  have hB2 : Below w.heap.size w (((w.alloc (.cells #[.int .i64 i, .int .i64 s] 41 (0, 0))).alloc (.cells #[.int .i64 s] 3)).drew) := (hB.alloc (by simp) _).drew
  have r0 : (((w.alloc (.cells #[.int .i64 i, .int .i64 s] 41 (0, 0))).alloc (.cells #[.int .i64 s] 3)).drew).cell? ⟨g, 0, none⟩ = some (.slice (some ⟨gm, 0, none⟩) C.length c) := (hB2.cell (p := ⟨g, 0, none⟩) hlt).trans hm
  have r3 : (((w.alloc (.cells #[.int .i64 i, .int .i64 s] 41 (0, 0))).alloc (.cells #[.int .i64 s] 3)).drew).cell? ⟨gm, i, none⟩ = some (.pointer (some ⟨(ps.getD i (0, 0)).1, 0, none⟩)) := (hB2.cell (p := ⟨gm, i, none⟩) hlt2).trans hc
  have r1 : (((w.alloc (.cells #[.int .i64 i, .int .i64 s] 41 (0, 0))).alloc (.cells #[.int .i64 s] 3)).drew).cell? ⟨w.heap.size, 0, none⟩ = some (.int .i64 i) := ((Blk.here w 41 #[.int .i64 i, .int .i64 s]).alloc _).cell 0
  have r2 : (((w.alloc (.cells #[.int .i64 i, .int .i64 s] 41 (0, 0))).alloc (.cells #[.int .i64 s] 3)).drew).cell? ⟨w.heap.size, 1, none⟩ = some (.int .i64 s) := ((Blk.here w 41 #[.int .i64 i, .int .i64 s]).alloc _).cell 1
  have hbp := hmod.head.lt
  have hbs := hmod.row.lt
  have hMd : ∀ o, IsM (((w.alloc (.cells #[.int .i64 i, .int .i64 s] 41 (0, 0))).alloc o).drew) (ps.getD i (0, 0)).1 (ps.getD i (0, 0)).2 (C.getD i []) (C.getD i []).sum := fun o => ⟨(hmod.head.alloc _).alloc o, (hmod.row.alloc _).alloc o⟩
  have hMs' : ∀ o, IsMs (((w.alloc (.cells #[.int .i64 i, .int .i64 s] 41 (0, 0))).alloc o).drew) B (.slice (some ⟨gm, 0, none⟩) C.length c) ps C := fun o => CW.IsMs.ft hM ((((Ft.refl B [] w).alloc _).alloc o).drew) (by decide) (by decide) (by decide)
  have hFa : ∀ o, Ft B [103, 3] w (((w.alloc (.cells #[.int .i64 i, .int .i64 s] 41 (0, 0))).alloc o).drew) := fun o => (((Ft.refl B _ w).alloc _).alloc o).drew
  have HMS := Lib.hid hMs'
  have HFA := Lib.hid hFa
  have HOK := Lib.hid hok
  have HMD := Lib.hid hMd
  have HS1 := Lib.hid hs1
  have HC := Lib.hid (show cntC C (i : Int) s = C.set i (cntI (C.getD i []) s) by unfold cntC; rw [if_pos (by omega), Int.toNat_natCast])
  have HI := Lib.hid hi
  have hcell : (((w.alloc (.cells #[.int .i64 i, .int .i64 s] 41 (0, 0))).alloc (.cells #[.int .i64 s] 3)).drew).cell? ⟨(w.alloc (.cells #[.int .i64 i, .int .i64 s] 41 (0, 0))).heap.size, 0, none⟩ = some (.int .i64 s) :=
    (Blk.here (w.alloc (.cells #[.int .i64 i, .int .i64 s] 41 (0, 0))) 3 #[.int .i64 s]).cell 0
  have hle : w.heap.size ≤ (w.alloc (.cells #[.int .i64 i, .int .i64 s] 41 (0, 0))).heap.size := by simp
  have HCELL := Lib.hid hcell
  have d0 : decide (0 ≤ (i : Int)) = true := decide_eq_true (by omega)
  have d4 : decide (i < C.length) = true := decide_eq_true hi
  have d5 : 0 ≤ (i : Int) := by omega
  have d6 : (i : Int) < (C.length : Int) := by omega
  generalize hp1 : (ps.getD i (0, 0)).1 = bp at *
  generalize hp2 : (ps.getD i (0, 0)).2 = bs at *
  generalize hci : C.getD i [] = ci at *
  have HP1 := Lib.hid hp1
  have HP2 := Lib.hid hp2
  have HCI := Lib.hid hci
  clear hM hmod hok hMs' hFa hMd hp1 hp2 hci hs1 hB hB2 hMs hcell
  go_enter Try.func41, Try.ntmps41
  go_wp2_with fail
  generalize w.alloc (.cells #[.int .i64 i, .int .i64 s] 41 (0, 0)) = w1 at *
  go_region_with (go_at_call 51; (with_reducible refine (count_one _ bp bs ci ci.length (HMD.out _) HOK.out s w1.heap.size (by simp) (by omega) (by omega) HCELL.out hs0 HS1.out).mono ?_); rintro e w' ⟨rfl, hm', ho'⟩)
  all_goals
    go_wp2_with fail
    go_end0
    have h1 := IsMs.counted (HMS.out _) HI.out (cs := cntI ci s) (by rw [HP1.out, HP2.out]; exact hm') (by rw [HP1.out, HP2.out]; exact ho')
    rw [HC.out]
    exact ⟨rfl, h1.1, (HFA.out _).trans h1.2⟩
end Go.Proofs.Ythegimfokcdehaa.CW
namespace Go.Proofs.Ythegimfokcdehaa.CW
open Go Go.RowKit Go.Proofs.Ythegimfokcdehaa.Mem Go.Proofs.Ythegimfokcdehaa.CM Go.Proofs.Ythegimfokcdehaa.MW Go.Proofs.Ythegimfokcdehaa.PCod Go.Proofs.YthegimfokcdehaaW.PrintWords Go.Proofs.YthegimfokcdehaaW.PrintLast Go.Proofs.YthegimfokcdehaaW.PrintMore
attribute [local go_sem] max2_int min2_int max_two min_two max_three min_three max_four min_four
set_option linter.unusedVariables false
set_option linter.unusedSimpArgs false
set_option maxRecDepth 100000 in
theorem count41_neg (w : World) (g B : Nat) (mv : Value) (ps : List (Nat × Nat)) (C : List (List Int)) (k s : Int) (hM : IsMs w B mv ps C) (hk : k < 0) :
    Calls Try.prog 41 #[.pointer (some ⟨g, 0, none⟩), .agg #[.int .i64 k, .int .i64 s]] w fun e w' => e = .returned (.tuple #[]) ∧ IsMs w' B mv ps (cntC C k s) ∧ Ft B [103, 3] w w' := by
  have hF : Ft B [] w (w.alloc (.cells #[.int .i64 k, .int .i64 s] 41 (0, 0))) := (Ft.refl B _ w).alloc _
  have hM2 := CW.IsMs.ft hM hF (by decide) (by decide) (by decide)
  have d0 : decide (0 ≤ k) = false := decide_eq_false (by omega)
  have HC := Lib.hid (show cntC C k s = C by unfold cntC; rw [if_neg (by omega)])
  have HM2 := Lib.hid hM2
  clear hM hM2
  go_enter Try.func41, Try.ntmps41
  go_wp2
  go_end0
  rw [HC.out]
  exact ⟨rfl, HM2.out, hF.mono (Nat.le_refl _) (by simp)⟩
theorem count41 (w : World) (g B : Nat) (mv : Value) (ps : List (Nat × Nat)) (C : List (List Int)) (k s : Int) (hm : w.cell? ⟨g, 0, none⟩ = some mv) (hM : IsMs w B mv ps C) (hMs : Mods C) (hl : C.length ≤ 1000) {p : Int × Int} (hsh : share C k s = some p) :
    Calls Try.prog 41 #[.pointer (some ⟨g, 0, none⟩), .agg #[.int .i64 k, .int .i64 s]] w fun e w' => e = .returned (.tuple #[]) ∧ IsMs w' B mv ps (cntC C k s) ∧ Ft B [103, 3] w w' := by
  by_cases hk : k < 0
  · exact count41_neg w g B mv ps C k s hM hk
  · obtain ⟨i, rfl⟩ := Int.eq_ofNat_of_zero_le (show 0 ≤ k by omega)
    obtain ⟨s0, _, _, _, _, _, h7⟩ := share_some hMs hsh
    rcases h7 with h7 | ⟨_, h8, h9⟩
    · exact absurd h7.1 hk
    · rw [Int.toNat_natCast] at h9
      exact count41_at w g B mv ps C i s hm hM hMs hl (by omega) s0 h9
set_option maxHeartbeats 1000000 in
set_option maxRecDepth 100000 in
theorem find33 (w : World) (g B : Nat) (mv : Value) (ps : List (Nat × Nat)) (C : List (List Int)) (k v : Int) (h0 : -9223372036854775808 ≤ k) (h1 : k < 9223372036854775808) (hm : w.cell? ⟨g, 0, none⟩ = some mv) (hM : IsMs w B mv ps C) (hMs : Mods C) (hl : C.length ≤ 1000) (hw : 0 < whole C k) (hv0 : 0 ≤ v) (hv1 : v < 9223372036854775808) :
    Calls Try.prog 33 #[.pointer (some ⟨g, 0, none⟩), .int .i64 k, .int .i64 v] w fun e w' => e = .returned (.int .i64 (findS C k (mn v (whole C k - 1)))) ∧ w = w' := by
  have hwb : whole C k ≤ 65536 := by
    unfold whole at hw ⊢
    by_cases hp : isPlain k
    · rw [if_pos hp]; exact (bits_bound hp.1 hp.2).2
    · rw [if_neg hp] at hw ⊢
      by_cases hk : 0 ≤ k ∧ k < C.length
      · rw [if_pos hk]
        have := (hMs.at_ (k := k.toNat) (by omega)).1.2.1
        omega
      · rw [if_neg hk] at hw; omega
  have hW := fun W hm' hM' => whole32 W g B mv ps C k h0 h1 hm' hM' hl
  have HW := Lib.hid (hW w hm hM)
  clear hW
  generalize hx : whole C k = x at *
  have HX := Lib.hid hx
  clear hx
  have hmn : (¬ x - 1 < v ∧ mn v (x - 1) = v) ∨ (x - 1 < v ∧ mn v (x - 1) = x - 1) := by
    by_cases h : x - 1 < v
    · exact .inr ⟨h, by unfold mn; rw [if_pos h]⟩
    · exact .inl ⟨h, by unfold mn; rw [if_neg h]⟩
  by_cases hk : k < 0
  · have d0 : decide (k < 0) = true := decide_eq_true hk
    have hf : ∀ u, findS C k u = u := fun u => by unfold findS; rw [if_pos hk]
    have HF := Lib.hid hf
    clear hf hM
    rcases hmn with ⟨hvx, hmn⟩ | ⟨hvx, hmn⟩
    all_goals
      rw [hmn]
      clear hmn
      go_enter Try.func33, Try.ntmps33
      go_wp2_with (go_at_call 32; refine HW.out.mono ?_; rintro e w' ⟨rfl, rfl⟩)
      go_ret
      exact ⟨ret_int (HF.out _).symm, rfl⟩
  · obtain ⟨i, rfl⟩ := Int.eq_ofNat_of_zero_le (show 0 ≤ k by omega)
    have hi : i < C.length := by
      have hx := HX.out
      unfold whole at hx
      rw [if_neg (fun h => hk h.1)] at hx
      by_cases h : 0 ≤ (i : Int) ∧ (i : Int) < C.length
      · omega
      · rw [if_neg h] at hx; omega
    obtain ⟨gm, c, rfl, hc⟩ := hM.at_ hi
    have hmod := (hM.mod i hi).1
    have hok := (hMs.at_ hi).1
    have hx : (C.getD i []).sum = x := by rw [← HX.out, whole_at C hi]
    have hf : ∀ u, findS C (i : Int) u = findL (C.getD i []) 0 u := fun u => by unfold findS; rw [if_neg hk, Int.toNat_natCast]
    rw [hx] at hmod
    have HF := Lib.hid hf
    have HOK := Lib.hid hok.inv
    have HMOD := Lib.hid hmod
    have d0 : decide ((i : Int) < 0) = false := decide_eq_false hk
    have d4 : decide (i < C.length) = true := decide_eq_true hi
    generalize (ps.getD i (0, 0)).1 = bp at *
    generalize (ps.getD i (0, 0)).2 = bs at *
    generalize C.getD i [] = ci at *
    have HSUM := Lib.hid hx
    clear hf hM hMs hmod hok hx h0 h1
    rcases hmn with ⟨hvx, hmn⟩ | ⟨hvx, hmn⟩
    · rw [hmn]
      clear hmn
      go_enter Try.func33, Try.ntmps33
      go_wp2_with fail
      refine HW.out.mono ?_; rintro e w' ⟨rfl, rfl⟩
      go_wp2_with fail
      refine (find_ok _ bp bs ci x HMOD.out HOK.out v hv0 (by omega) (by omega)).mono ?_; rintro e w' ⟨rfl, rfl⟩
      go_wp2_with fail
      go_ret
      exact ⟨ret_int (HF.out _).symm, rfl⟩
    · rw [hmn]
      clear hmn
      go_enter Try.func33, Try.ntmps33
      go_wp2_with fail
      refine HW.out.mono ?_; rintro e w' ⟨rfl, rfl⟩
      go_wp2_with fail
      refine (find_ok _ bp bs ci x HMOD.out HOK.out (x - 1) (by omega) (by omega) (by omega)).mono ?_; rintro e w' ⟨rfl, rfl⟩
      go_wp2_with fail
      go_ret
      exact ⟨ret_int (HF.out _).symm, rfl⟩
end Go.Proofs.Ythegimfokcdehaa.CW
namespace Go.Proofs.Ythegimfokcdehaa.CW
open Go Go.RowKit Go.Proofs.Ythegimfokcdehaa.Mem Go.Proofs.Ythegimfokcdehaa.CM Go.Proofs.Ythegimfokcdehaa.MW Go.Proofs.Ythegimfokcdehaa.PCod Go.Proofs.YthegimfokcdehaaW.PrintWords Go.Proofs.YthegimfokcdehaaW.PrintLast Go.Proofs.YthegimfokcdehaaW.PrintMore
set_option linter.unusedVariables false
set_option linter.unusedSimpArgs false
def freshC (l : List Int) : List (List Int) := l.map fun n => List.replicate n.toNat 1
def Sizes (l : List Int) : Prop := l.length ≤ 16 ∧ ∀ n ∈ l, 1 ≤ n ∧ n ≤ 256
theorem fresh_mods {l : List Int} (h : ∀ n ∈ l, 1 ≤ n ∧ n ≤ 256) : Mods (freshC l) := by
  intro c hc
  obtain ⟨n, hn, rfl⟩ := List.mem_map.1 hc
  obtain ⟨h1, h2⟩ := h n hn
  rw [List.length_replicate]
  refine ⟨⟨fun x hx => by rw [List.eq_of_mem_replicate hx]; omega, ?_, by rw [List.length_replicate], by omega⟩, by omega⟩
  have hs : ∀ m : Nat, (List.replicate m (1 : Int)).sum = m := by
    intro m
    induction m with
    | zero => rfl
    | succ m ih => rw [List.replicate_succ, List.sum_cons, ih]; omega
  rw [hs]
  omega
theorem getD_snoc_lt {α : Type} (l : List α) (x d : α) {i : Nat} (h : i < l.length) : (l ++ [x]).getD i d = l.getD i d := by
  rw [List.getD_eq_getElem?_getD, List.getD_eq_getElem?_getD, List.getElem?_append_left h]
theorem getD_snoc_eq {α : Type} (l : List α) (x d : α) {i : Nat} (h : i = l.length) : (l ++ [x]).getD i d = x := by
  subst h
  rw [List.getD_eq_getElem?_getD, List.getElem?_append_right (Nat.le_refl _), Nat.sub_self]
  rfl
theorem IsMs.nil (w : World) (B : Nat) : IsMs w B (.slice none 0 0) [] [] :=
  ⟨rfl, Kd.R_nil _ _ _ _ _, fun i hi => absurd hi (by simp), fun i j hi => absurd hi (by simp)⟩
theorem IsMs.push {w : World} {B : Nat} {mv' : Value} {ps : List (Nat × Nat)} {C : List (List Int)} {bp bs : Nat} {c : List Int} (hl : ps.length = C.length) (hR : Kd.R ptrK 87 w B (fun _ => True) mv' (ps.map Prod.fst ++ [bp]))
    (hmod : ∀ i, i < C.length → IsM w (ps.getD i (0, 0)).1 (ps.getD i (0, 0)).2 (C.getD i []) (C.getD i []).sum ∧ B ≤ (ps.getD i (0, 0)).1 ∧ B ≤ (ps.getD i (0, 0)).2) (hinj : ∀ i j, i < C.length → j < C.length → i ≠ j → (ps.getD i (0, 0)).1 ≠ (ps.getD j (0, 0)).1 ∧ (ps.getD i (0, 0)).2 ≠ (ps.getD j (0, 0)).2)
    (hm : IsM w bp bs c c.sum) (h1 : B ≤ bp) (h2 : B ≤ bs) (hnew : ∀ i, i < C.length → (ps.getD i (0, 0)).1 < bp ∧ (ps.getD i (0, 0)).2 < bs) : IsMs w B mv' (ps ++ [(bp, bs)]) (C ++ [c]) := by
  refine ⟨by rw [List.length_append, List.length_append, hl]; rfl, by rw [List.map_append]; exact hR, fun i hi => ?_, fun i j hi hj hne => ?_⟩
  · rw [List.length_append, List.length_singleton] at hi
    by_cases h : i < C.length
    · rw [getD_snoc_lt _ _ _ (by omega), getD_snoc_lt _ _ _ h]
      exact hmod i h
    · rw [getD_snoc_eq _ _ _ (by omega), getD_snoc_eq _ _ _ (by omega)]
      exact ⟨hm, h1, h2⟩
  · rw [List.length_append, List.length_singleton] at hi hj
    by_cases h : i < C.length
    · by_cases h' : j < C.length
      · rw [getD_snoc_lt _ _ _ (by omega), getD_snoc_lt _ _ _ (by omega)]
        exact hinj i j h h' hne
      · rw [getD_snoc_lt _ _ _ (by omega), getD_snoc_eq _ _ _ (by omega)]
        obtain ⟨a, b⟩ := hnew i h
        exact ⟨by show _ ≠ bp; omega, by show _ ≠ bs; omega⟩
    · have h' : j < C.length := by omega
      rw [getD_snoc_eq _ _ _ (by omega), getD_snoc_lt _ _ _ (by omega)]
      obtain ⟨a, b⟩ := hnew j h'
      exact ⟨by show bp ≠ _; omega, by show bs ≠ _; omega⟩
theorem IsMs.lt {w : World} {B : Nat} {mv : Value} {ps : List (Nat × Nat)} {C : List (List Int)} (h : IsMs w B mv ps C) {i : Nat} (hi : i < C.length) : (ps.getD i (0, 0)).1 < w.heap.size ∧ (ps.getD i (0, 0)).2 < w.heap.size := ⟨(h.mod i hi).1.head.lt, (h.mod i hi).1.row.lt⟩
theorem IsMs.below {w w' : World} {B : Nat} {mv : Value} {ps : List (Nat × Nat)} {C : List (List Int)} (h : IsMs w B mv ps C) (hb : Below w.heap.size w w') : IsMs w' B mv ps C :=
  CW.IsMs.ft h (Ft.of_below 0 [] hb) (by decide) (by decide) (by decide)
theorem ones_ok (n : Nat) (h1 : 1 ≤ n) (h2 : n ≤ 256) : Ok n (List.replicate n 1) ∧ (List.replicate n (1 : Int)).sum = n := by
  have hs : (List.replicate n (1 : Int)).sum = n := by
    clear h1 h2
    induction n with
    | zero => rfl
    | succ n ih => rw [List.replicate_succ, List.sum_cons, ih]; omega
  refine ⟨⟨fun c hc => ?_, by omega, by simp, h2⟩, hs⟩
  rw [List.eq_of_mem_replicate hc]
  omega
theorem info87 : (Try.prog.info? 87).map (fun i => (i.zero, i.size, i.bytes)) = some (some (.pointer none), ptrK.sz, 8) := by kernel_rfl
def BegunPost (l : List Int) (w : World) (e : Ending) (w' : World) : Prop :=
  (Sizes l ∧ ∃ mv ps, e = .returned (.tuple #[.agg #[mv, .int .u32 4294967295], .bool true]) ∧ IsMs w' w.heap.size mv ps (freshC l) ∧ Below w.heap.size w w') ∨
  (¬ Sizes l ∧ ∃ A n c, e = .returned (.tuple #[.agg #[.slice A n c, .int .u32 4294967295], .bool false]) ∧ Below w.heap.size w w')
set_option maxHeartbeats 2000000 in
set_option maxRecDepth 100000 in
theorem begun22 (w : World) (A : Option Addr) (l : List Int) (c : Nat) (hr : Kd.C (Kd.int .i64) w A l.length l) (hl : l.length ≤ 1000) (hwf : ∀ n ∈ l, -9223372036854775808 ≤ n ∧ n < 9223372036854775808) :
    Calls Try.prog 22 #[.slice A l.length c] w (BegunPost l w) := by
  have hb := ((Below.refl w.heap.size w).alloc (Nat.le_refl _) (.cells #[.slice none 0 0, .int .u32 0] 54 (0, 0))).alloc (by simp) (.cells #[.slice none 0 0, .int .u32 4294967295] 54 (0, 0))
  by_cases hlen : 16 < l.length
  · have d0 : decide (16 < (l.length : Int)) = true := decide_eq_true (by omega)
    have d1 : decide (16 < l.length) = true := decide_eq_true (by omega)
    go_enter Try.func22, Try.ntmps22
    go_wp2
    refine bodyPost_ret (v := .tuple #[.agg #[.slice none 0 0, .int .u32 4294967295], .bool false]) (by rw [results, show Try.f22.results = #[.cell 2 54, .tmp 3] from rfl]; go_simp) rfl ?_
    exact .inr ⟨fun h => by have := h.1; omega, _, _, _, rfl, ((Below.refl w.heap.size w).alloc (Nat.le_refl _) _).alloc (by simp) _⟩
  · have d0 : decide (16 < (l.length : Int)) = false := decide_eq_false (by omega)
    have d1 : decide (16 < l.length) = false := decide_eq_false (by omega)
    have hx0 := (Blk.here w 54 #[.slice none 0 0, .int .u32 0]).alloc (.cells #[.slice none 0 0, .int .u32 4294967295] 54 (0, 0))
    have hx1 := Blk.here (w.alloc (.cells #[.slice none 0 0, .int .u32 0] 54 (0, 0))) 54 #[.slice none 0 0, .int .u32 4294967295]
    rw [show (w.alloc (.cells #[.slice none 0 0, .int .u32 0] 54 (0, 0))).heap.size = w.heap.size + 1 by simp] at hx1
    have HR := Lib.hid hr
    have HWF := Lib.hid hwf
    clear hr hwf
    go_enter Try.func22, Try.ntmps22
    go_wp2
    generalize (w.alloc (.cells #[.slice none 0 0, .int .u32 0] 54 (0, 0))).alloc (.cells #[.slice none 0 0, .int .u32 4294967295] 54 (0, 0)) = w1 at *
    obtain ⟨B, hB⟩ : ∃ B, B = w.heap.size := ⟨_, rfl⟩
    rw [← hB] at hb hx0 hx1 ⊢
    have HB := Lib.hid hB
    clear hB
    go_loopw [16] (fun v wr => ∃ k : Nat, k ≤ l.length ∧ v = .int .i64 k ∧ Hid (∀ n ∈ l.take k, 1 ≤ n ∧ n ≤ 256) ∧ Below B w wr ∧ Blk wr B 54 #[.slice none 0 0, .int .u32 0] ∧ ∃ mv ps, Blk wr (B + 1) 54 #[mv, .int .u32 4294967295] ∧ IsMs wr B mv ps (freshC (l.take k))) (fun v _ => l.length - (intOf v).toNat)
    case atStart => exact ⟨0, Nat.zero_le _, rfl, Lib.hid (by simp), hb, hx0, _, [], hx1, IsMs.nil _ _⟩
    case round =>
      clear hb hx0 hx1
      obtain ⟨k, hk, rfl, hgood, hb, hx0, mv, ps, hx1, hM⟩ := hrel
      have x10 : wr.cell? ⟨B + 1, 0, none⟩ = some mv := hx1.cell 0
      have x11 : wr.cell? ⟨B + 1, 1, none⟩ = some (.int .u32 4294967295) := hx1.cell 1
      have f10 := hx1.frozen 0
      have f00 := hx0.frozen 0
      have f01 := hx0.frozen 1
      have x00 : wr.cell? ⟨B, 0, none⟩ = some (.slice none 0 0) := hx0.cell 0
      have x01 : wr.cell? ⟨B, 1, none⟩ = some (.int .u32 0) := hx0.cell 1
      have hsB := hx1.lt
      by_cases hlt : k < l.length
      · have hb' : Below w.heap.size w wr := by rw [← HB.out]; exact hb
        obtain ⟨ad, e1, hcell⟩ := Kd.at_int (Kd.C_below HR.out hb') (k : Int) (by omega) (by omega)
        cases e1
        rw [Int.toNat_natCast] at hcell
        have hg : rd l (k : Int) = l[k] := by unfold rd; rw [Int.toNat_natCast, List.getD_eq_getElem?_getD, List.getElem?_eq_getElem hlt]; rfl
        have hmem : l[k] ∈ l := List.getElem_mem hlt
        have htk : l.take (k + 1) = l.take k ++ [l[k]] := List.take_succ_eq_append_getElem hlt
        have hw2 := HWF.out _ hmem
        rw [hg] at hcell
        generalize l[k] = n at *
        have HTK := Lib.hid htk
        have HMEM := Lib.hid hmem
        have d2 : 0 ≤ (k : Int) := by omega
        have d3 : (k : Int) < (l.length : Int) := by omega
        have d4 : decide (k < l.length) = true := decide_eq_true hlt
        clear hg htk hmem hb'
        by_cases hn : 1 ≤ n ∧ n ≤ 256
        · obtain ⟨n, rfl⟩ := Int.eq_ofNat_of_zero_le (show 0 ≤ n by omega)
          go_wp2_with fail
          refine (new_ok _ n (by omega) (by omega)).mono ?_
          rintro e w2 ⟨bp, bs, rfl, hm2, hbp, hbs, hb2⟩
          have hM2 := hM.below hb2
          have y1 := hx1.below hb2
          have y0 := hx0.below hb2
          have hlt1 := Lib.hid (show ∀ i, i < (freshC (l.take k)).length → (ps.getD i (0, 0)).1 < wr.heap.size ∧ (ps.getD i (0, 0)).2 < wr.heap.size from fun i hi => hM.lt hi)
          have hs2 := hb2.size
          have hb3 : Below B w w2 := hb.trans (hb2.mono (by omega))
          have z10 : w2.cell? ⟨B + 1, 0, none⟩ = some mv := y1.cell 0
          have zf := y1.frozen 0
          have hbpl := hm2.head.lt
          go_wp2_with (first | (at_builtin; go_must (refine Kd.R_append ptrK (w0 := w2) (W := w2) B rfl (.tmp 29) (.tmp 31) 51 87 (.pointer none) 8 rfl Try.underlying51 info87 rfl (by decide) (by decide) mv (ps.map Prod.fst) bp [.pointer (some ⟨bp, 0, none⟩)] (fun _ => True) (fun _ => False) rfl rfl rfl (fun _ hk => hk.elim) (fun _ _ => trivial) hM2.row (Below.refl _ _) (by omega) (by rw [List.length_map, hM2.len]; simp [freshC]; omega) ?_); intro v1 w3 hR1 hb4 hg1 hat1; have y1b := y1.grown hg1 (Kd.R_ne hM2.row y1 (by decide)); have y0b := y0.grown hg1 (Kd.R_ne hM2.row y0 (by decide)); have zz := y1b.cell 0; have zzf := y1b.frozen 0; obtain ⟨A2, c2, e2⟩ := Kd.R_slice hR1; subst e2))
          go_roundw
          case rel =>
            obtain ⟨inner, hown⟩ := Kd.R_own hM2.row
            have hF1 : Ft B [87, 54] w2 w3 := (Ft.refl B _ w2).grown hg1 (fun j hj => by
              obtain ⟨h1, cs, h2⟩ := own_row hown j hj
              exact ⟨h1, cs, 87, h2, by decide⟩)
            have hF2 := hF1.setCell (p := ⟨B + 1, 0, none⟩) y1b (by decide) (Nat.le_succ B) (.slice A2 (ps.map Prod.fst ++ [bp]).length c2)
            have hR2 := Kd.R_set hR1 y1b (by decide) 0 (.slice A2 (ps.map Prod.fst ++ [bp]).length c2)
            have hy2 := y1b.set_ 0 (.slice A2 (ps.map Prod.fst ++ [bp]).length c2)
            have hy0 := y0b.far (p := ⟨B + 1, 0, none⟩) (by show B ≠ B + 1; omega) (.slice A2 (ps.map Prod.fst ++ [bp]).length c2)
            have hlen2 : (ps.map Prod.fst ++ [bp]).length = ps.length + 1 := by simp
            have hM3 := IsMs.push (bp := bp) (bs := bs) (c := List.replicate n 1) hM2.len hR2 (fun i hi => ⟨CW.IsM.ft (hM2.mod i hi).1 hF2 (by decide) (by decide), (hM2.mod i hi).2⟩) hM2.inj (CW.IsM.ft (by have := hm2; rwa [show ((n : Nat) : Int) = (List.replicate n (1 : Int)).sum from (ones_ok n (by omega) (by omega)).2.symm] at this) hF2 (by decide) (by decide)) (by omega) (by omega) (fun i hi => by obtain ⟨a, b⟩ := hlt1.out i hi; omega)
            have hfc : freshC (l.take (k + 1)) = freshC (l.take k) ++ [List.replicate n 1] := by
              rw [HTK.out]; unfold freshC; rw [List.map_append, List.map_singleton, Int.toNat_natCast]
            refine ⟨k + 1, by omega, by go_num, Lib.hid ?_, (hb3.trans hb4).setCell (by show B ≤ B + 1; omega) _, ?_, .slice A2 (ps.length + 1) c2, ps ++ [(bp, bs)], ?_, ?_⟩
            · intro m hm
              rw [HTK.out] at hm
              rcases List.mem_append.1 hm with hm | hm
              · exact hgood.out m hm
              · rw [List.mem_singleton] at hm
                subst hm
                omega
            · rw [hlen2] at hy0
              exact hy0
            · rw [hlen2] at hy2
              exact hy2
            · rw [hfc]
              rw [hlen2] at hM3
              exact hM3
          case measure => simp [intOf]; omega
        · have hmem := HMEM.out
          have hbad : n < 1 ∨ 256 < n := by omega
          obtain ⟨A2, c2, rfl⟩ := hM.slice
          go_wp2_with fail
          refine (new_bad _ n hbad).mono ?_
          rintro e w2 ⟨rfl, rfl⟩
          go_wp2_with fail
          refine bodyPost_ret (v := .tuple #[.agg #[.slice A2 (freshC (l.take k)).length c2, .int .u32 4294967295], .bool false]) (by rw [results, show Try.f22.results = #[.cell 2 54, .tmp 3] from rfl]; go_simp) rfl ?_
          refine .inr ⟨fun h => by have := h.2 n hmem; omega, _, _, _, rfl, ?_⟩
          rw [← HB.out]
          exact (hb.setCell (by show B ≤ B; omega) _).setCell (by show B ≤ B; omega) _
      · obtain rfl : k = l.length := by omega
        obtain ⟨A2, c2, rfl⟩ := hM.slice
        go_wp2
        refine bodyPost_ret (v := .tuple #[.agg #[.slice A2 (freshC (l.take l.length)).length c2, .int .u32 4294967295], .bool true]) (by rw [results, show Try.f22.results = #[.cell 2 54, .tmp 3] from rfl]; go_simp) rfl ?_
        have hg := hgood.out
        have hF := ((Ft.refl B [54] wr).setCell (p := ⟨B, 0, none⟩) hx0 (by decide) (Nat.le_refl B) (.slice A2 (freshC (l.take l.length)).length c2)).setCell (p := ⟨B, 1, none⟩) (hx0.set_ 0 _) (by decide) (Nat.le_refl B) (.int .u32 4294967295)
        have hM2 := CW.IsMs.ft hM hF (by decide) (by decide) (by decide)
        rw [List.take_length] at hg hM2 ⊢
        refine .inl ⟨⟨by omega, hg⟩, _, ps, rfl, ?_, ?_⟩
        · rw [← HB.out]; exact hM2
        · rw [← HB.out]; exact (hb.setCell (by show B ≤ B; omega) _).setCell (by show B ≤ B; omega) _
theorem ready23 (w : World) (mv : Value) (R : Int) (hmv : ∃ A n c, mv = .slice A n c) : Calls Try.prog 23 #[.agg #[mv, .int .u32 R]] w fun e w' => ∃ g, e = .returned (.pointer (some ⟨g, 0, none⟩)) ∧ w.heap.size ≤ g ∧ IsE w' g mv R (.slice none 0 0) [] 0 1 0 ∧ Below w.heap.size w w' := by
  obtain ⟨A, n, c, rfl⟩ := hmv
  go_enter Try.func23, Try.ntmps23
  go_wp2
  go_ret
  have h1 := Blk.here (w.alloc (.cells #[.slice A n c, .int .u32 R] 54)) 78 #[.slice A n c, .int .u32 R, .slice none 0 0, .int .u8 0, .int .i64 1, .int .u64 0]
  rw [show (w.alloc (.cells #[.slice A n c, .int .u32 R] 54)).heap.size = w.heap.size + 1 by simp] at h1
  exact ⟨w.heap.size + 1, rfl, by omega, ⟨h1, Kd.R_nil _ _ _ _ _⟩, ((Below.refl w.heap.size w).alloc (Nat.le_refl _) _).alloc (by simp) _⟩
theorem IsE.ft {B : Nat} {ts : List TypeId} {w w' : World} {g : Nat} {mv ov : Value} {R c l : Int} {o : List Int} {h : Nat} (hE : IsE w g mv R ov o c h l) (hF : Ft B ts w w') (h1 : 78 ∉ ts) (h2 : 5 ∉ ts) : IsE w' g mv R ov o c h l :=
  ⟨hF.blk hE.blk h1, Ft.R hF hE.row (fun q hq => by
    have : q = 5 := by simpa [Kd.int, Kd.scalar] using hq
    rw [this]
    exact h2)⟩
theorem IsE.below {w w' : World} {g : Nat} {mv ov : Value} {R c l : Int} {o : List Int} {h : Nat} (hE : IsE w g mv R ov o c h l) (hb : Below w.heap.size w w') : IsE w' g mv R ov o c h l := hE.ft (Ft.of_below 0 [] hb) (by decide) (by decide)
theorem IsE.setR {w0 w : World} {g : Nat} {mv ov : Value} {R c l : Int} {o : List Int} {h : Nat} (hF : Ft g [78, 5] w0 w) (hE : IsE w g mv R ov o c h l) (R' : Int) : IsE (w.setCell ⟨g, 1, none⟩ (.int .u32 R')) g mv R' ov o c h l ∧ Ft g [78, 5] w0 (w.setCell ⟨g, 1, none⟩ (.int .u32 R')) := by
  refine ⟨⟨?_, Kd.R_set hE.row hE.blk (by decide) 1 _⟩, hF.setCell (p := ⟨g, 1, none⟩) hE.blk (by decide) (Nat.le_refl g) _⟩
  have := hE.blk.set_ 1 (.int .u32 R')
  exact this
theorem sh_len (o : List Int) (c : Int) {h : Nat} (l : Int) (hh : 1 ≤ h) : (sh o c h l).1.length + (sh o c h l).2.2.1 = o.length + h + 1 ∧ 1 ≤ (sh o c h l).2.2.1 := by
  unfold sh
  split
  · rw [if_pos (by omega)]
    simp only [List.length_append, List.length_replicate, List.length_singleton]
    omega
  · simp only
    omega
theorem sh_c (o : List Int) {c : Int} (h : Nat) (l : Int) (h0 : 0 ≤ c) (h1 : c < 256) : 0 ≤ (sh o c h l).2.1 ∧ (sh o c h l).2.1 < 256 := by
  unfold sh
  split
  · simp only; omega
  · exact ⟨h0, h1⟩
end Go.Proofs.Ythegimfokcdehaa.CW
namespace Go.Proofs.Ythegimfokcdehaa.CW
open Go Go.RowKit Go.Proofs.Ythegimfokcdehaa.Mem Go.Proofs.Ythegimfokcdehaa.CM Go.Proofs.Ythegimfokcdehaa.MW Go.Proofs.Ythegimfokcdehaa.PCod Go.Proofs.YthegimfokcdehaaW.PrintWords Go.Proofs.YthegimfokcdehaaW.PrintLast Go.Proofs.YthegimfokcdehaaW.PrintMore
set_option linter.unusedVariables false
set_option linter.unusedSimpArgs false
set_option maxHeartbeats 2000000 in
set_option maxRecDepth 100000 in
theorem code_none (w : World) (g B : Nat) (mv ov : Value) (R c l : Int) (o : List Int) (h : Nat) (ps : List (Nat × Nat)) (C : List (List Int)) (k s : Int) (h0 : -9223372036854775808 ≤ k) (h1 : k < 9223372036854775808) (hE : IsE w g mv R ov o c h l) (hM : IsMs w B mv ps C) (hMs : Mods C) (hl : C.length ≤ 1000) (hsh : share C k s = none) :
    Calls Try.prog 24 #[.pointer (some ⟨g, 0, none⟩), .agg #[.int .i64 k, .int .i64 s]] w fun e w' => e = .returned (.tuple #[.int .i64 0, .bool false]) ∧ Below w.heap.size w w' := by
  have hB := (Below.refl w.heap.size w).alloc (Nat.le_refl _) (.cells #[.int .i64 k, .int .i64 s] 41 (0, 0))
  have hS := Lib.hid (share34 ((w.alloc (.cells #[.int .i64 k, .int .i64 s] 41 (0, 0))).drew) g B mv ps C k s h0 h1 ((hE.alloc _).drew.blk.cell 0) (CW.IsMs.ft hM (((Ft.refl B [] w).alloc _).drew) (by decide) (by decide) (by decide)) hMs hl)
  have HSH := Lib.hid hsh
  have q1 : (w.alloc (.cells #[.int .i64 k, .int .i64 s] 41 (0, 0))).drew.cell? ⟨w.heap.size, 0, none⟩ = some (.int .i64 k) := (Blk.here w 41 #[.int .i64 k, .int .i64 s]).cell 0
  have q2 : (w.alloc (.cells #[.int .i64 k, .int .i64 s] 41 (0, 0))).drew.cell? ⟨w.heap.size, 1, none⟩ = some (.int .i64 s) := (Blk.here w 41 #[.int .i64 k, .int .i64 s]).cell 1
  clear hE hM hsh
  go_enter Try.func24, Try.ntmps24
  go_wp2_with fail
  generalize w.alloc (.cells #[.int .i64 k, .int .i64 s] 41 (0, 0)) = w1 at *
  go_region_with (go_at_call 34; (with_reducible refine hS.out.mono ?_); rintro e w2 ⟨a, n, rfl, hp, hb2⟩; rw [HSH.out]; clear hp)
  go_wp2_with fail
  go_ret2
  refine ⟨rfl, ?_⟩
  exact (hB.drew).trans (hb2.mono hB.size)
theorem IsMs.drewN {w : World} {B : Nat} {mv : Value} {ps : List (Nat × Nat)} {C : List (List Int)} (h : IsMs w B mv ps C) (n : Nat) : IsMs (w.drewN n) B mv ps C := CW.IsMs.ft h ((Ft.refl B [] w).drewN n) (by decide) (by decide) (by decide)
theorem IsE.drewN {w : World} {g : Nat} {mv ov : Value} {R c l : Int} {o : List Int} {h : Nat} (hE : IsE w g mv R ov o c h l) (n : Nat) : IsE (w.drewN n) g mv R ov o c h l := ⟨hE.blk, hE.row⟩
structure Bd (s : List Int × Int × Nat × Int) (N : Nat) : Prop where
  c0 : 0 ≤ s.2.1
  c1 : s.2.1 < 256
  l0 : 0 ≤ s.2.2.2
  l1 : s.2.2.2 < 8589934592
  h1 : 1 ≤ s.2.2.1
  len : s.1.length + s.2.2.1 ≤ N
theorem Bd.sh {s : List Int × Int × Nat × Int} {N : Nat} (b : Bd s N) : Bd (CM.sh s.1 s.2.1 s.2.2.1 s.2.2.2) (N + 1) := by
  obtain ⟨a1, a2⟩ := sh_len s.1 s.2.1 s.2.2.2 b.h1
  obtain ⟨b1, b2⟩ := sh_c s.1 s.2.2.1 s.2.2.2 b.c0 b.c1
  have hl := sh_low s.1 s.2.1 s.2.2.1 s.2.2.2
  exact ⟨b1, b2, by rw [hl]; omega, by rw [hl]; omega, a2, by have := b.len; omega⟩
theorem shs_succ : ∀ (j : Nat) (s : List Int × Int × Nat × Int), shs (j + 1) s = CM.sh (shs j s).1 (shs j s).2.1 (shs j s).2.2.1 (shs j s).2.2.2
  | 0, s => rfl
  | j + 1, s => by
    rw [show shs (j + 1 + 1) s = shs (j + 1) (CM.sh s.1 s.2.1 s.2.2.1 s.2.2.2) from rfl, shs_succ j]
    rfl
theorem Bd.shs {s : List Int × Int × Nat × Int} {N : Nat} (b : Bd s N) : ∀ j, Bd (CM.shs j s) (N + j)
  | 0 => b
  | j + 1 => by
    rw [shs_succ]
    exact (Bd.shs b j).sh
theorem many_lt {r : Int} {j : Nat} (h0 : 256 ≤ r) (h : j < many r) : r * pw j < 16777216 := by
  unfold many at h
  by_cases a : r < 65536
  · rw [if_pos a] at h
    have : j = 0 ∨ j = 1 := by omega
    rcases this with rfl | rfl
    · rw [pw_zero]; omega
    · rw [pw_one]; omega
  · rw [if_neg a] at h
    by_cases b : r < 16777216
    · rw [if_pos b] at h
      have : j = 0 := by omega
      subst this
      rw [pw_zero]; omega
    · rw [if_neg b] at h
      omega
theorem many_le (r : Int) : many r ≤ 2 := by unfold many; split <;> (try split) <;> omega
set_option maxHeartbeats 4000000 in
set_option maxRecDepth 100000 in
theorem code_some (w : World) (g B : Nat) (mv ov : Value) (R c l : Int) (o : List Int) (h : Nat) (ps : List (Nat × Nat)) (C : List (List Int)) (k s a n q : Int) (m : Nat) (h0 : -9223372036854775808 ≤ k) (h1 : k < 9223372036854775808) (hE : IsE w g mv R ov o c h l) (hM : IsMs w B mv ps C) (hMs : Mods C) (hl : C.length ≤ 1000) (hsh : share C k s = some (a, n)) (hBg : B ≤ g)
    (hq : q = R / whole C k) (hm : m = many (q * n)) (hR0 : 16777216 ≤ R) (hR1 : R < 4294967296) (hl0 : 0 ≤ l) (hlR : l + R ≤ 8589934592) (hc0 : 0 ≤ c) (hc1 : c < 256) (hh : 1 ≤ h) (hoh : o.length + h ≤ 100000) :
    Calls Try.prog 24 #[.pointer (some ⟨g, 0, none⟩), .agg #[.int .i64 k, .int .i64 s]] w fun e w' => e = .returned (.tuple #[.int .i64 m, .bool true]) ∧ ∃ ov', IsE w' g mv (q * n * pw m) ov' (shs m (o, c, h, l + q * a)).1 (shs m (o, c, h, l + q * a)).2.1 (shs m (o, c, h, l + q * a)).2.2.1 (shs m (o, c, h, l + q * a)).2.2.2 ∧ IsMs w' B mv ps (cntC C k s) ∧ Ft B [78, 5, 103, 3] w w' := by
  have hw1 := (Ft.refl B [78, 5, 103, 3] w).alloc (.cells #[.int .i64 k, .int .i64 s] 41 (0, 0))
  have hE1 := (hE.alloc (.cells #[.int .i64 k, .int .i64 s] 41 (0, 0))).drew
  have hM1 : IsMs (w.alloc (.cells #[.int .i64 k, .int .i64 s] 41 (0, 0))).drew B mv ps C := CW.IsMs.ft hM (((Ft.refl B [] w).alloc _).drew) (by decide) (by decide) (by decide)
  have hbx : Blk (w.alloc (.cells #[.int .i64 k, .int .i64 s] 41 (0, 0))).drew w.heap.size 41 #[.int .i64 k, .int .i64 s] := Blk.here w 41 #[.int .i64 k, .int .i64 s]
  have hS := Lib.hid (share34 ((w.alloc (.cells #[.int .i64 k, .int .i64 s] 41 (0, 0))).drew) g B mv ps C k s h0 h1 (hE1.blk.cell 0) hM1 hMs hl)
  have hss := share_some hMs hsh
  have q1 := hbx.cell 0
  have q2 := hbx.cell 1
  have HSH := Lib.hid hsh
  have HMS := Lib.hid hMs
  have HW1 := Lib.hid hw1
  clear hE hM hsh hMs hw1
  obtain ⟨s0, a0, n1, an, x1, x2, _⟩ := hss
  generalize hx : whole C k = x at *
  have HX := Lib.hid hx
  have hq256 : 256 ≤ q := by rw [hq, Int.le_ediv_iff_mul_le (by omega)]; omega
  have hqw : q * x ≤ R := by rw [hq]; exact Int.ediv_mul_le _ (by omega)
  have hqR : q ≤ R := by
    have := Int.mul_le_mul_of_nonneg_left x1 (show 0 ≤ q by omega)
    omega
  have hqan : q * a + q * n ≤ R := by
    have := Int.mul_le_mul_of_nonneg_left an (show 0 ≤ q by omega)
    rw [Int.mul_add] at this
    omega
  have hqn : 256 ≤ q * n := by
    have := Int.mul_le_mul_of_nonneg_left n1 (show 0 ≤ q by omega)
    omega
  have hqa : 0 ≤ q * a := Int.mul_nonneg (by omega) a0
  have HQ := Lib.hid hq
  have HM := Lib.hid hm
  clear hx hq hm hqw
  go_enter Try.func24, Try.ntmps24
  go_wp2_with fail
  generalize hW1 : w.alloc (.cells #[.int .i64 k, .int .i64 s] 41 (0, 0)) = w1 at *
  have hgl := hE1.blk.lt
  have hbl := hbx.lt
  generalize hbox : w.heap.size = b at *
  clear hW1 hbox
  go_region_with (go_at_call 34; (with_reducible refine hS.out.mono ?_); rintro e w2 ⟨a', n', rfl, hp, hb2⟩; have hp2 := hp _ HSH.out; clear hp; obtain ⟨hp3, hp4⟩ := hp2; subst hp3; subst hp4; rw [HSH.out])
  have hE2 := hE1.below hb2
  have hM2 := hM1.below hb2
  have hbx2 := hbx.below hb2
  clear hE1 hM1 hbx q1 q2 hS
  have e0 : w2.cell? ⟨g, 0, none⟩ = some mv := hE2.blk.cell 0
  have e1 : w2.cell? ⟨g, 1, none⟩ = some (.int .u32 R) := hE2.blk.cell 1
  have e5 : w2.cell? ⟨g, 5, none⟩ = some (.int .u64 l) := hE2.blk.cell 5
  have y0 : w2.cell? ⟨b, 0, none⟩ = some (.int .i64 k) := hbx2.cell 0
  have y1 : w2.cell? ⟨b, 1, none⟩ = some (.int .i64 s) := hbx2.cell 1
  have hW : ∀ j : Nat, Calls Try.prog 32 #[.pointer (some ⟨g, 0, none⟩), .int .i64 k] (w2.drewN j) fun e w' => e = .returned (.int .i64 x) ∧ w2.drewN j = w' := fun j => by
    have := whole32 (w2.drewN j) g B mv ps C k h0 h1 ((hE2.drewN j).blk.cell 0) (hM2.drewN j) hl
    rw [HX.out] at this
    exact this
  have HW := Lib.hid hW
  clear hW
  have f1 := hE2.blk.frozen 1
  have f5 := hE2.blk.frozen 5
  go_wp2_with fail
  go_quiet ((go_at_call 32; exact quiet_one (HW.out _)))
  rw [← HQ.out]
  go_wp2_with fail
  have hF2 : Ft B [78, 5, 103, 3] w w2 := (HW1.out.drew).below_ hb2
  have hE3 := IsE.set5 ((Ft.refl g [78, 5] w2).drewN nq) (hE2.drewN nq) (l + q * a')
  have hE4 := IsE.setR hE3.2 hE3.1 (q * n')
  have hF4 : Ft B [78, 5, 103, 3] w2 (((w2.drewN nq).setCell ⟨g, 5, none⟩ (.int .u64 (l + q * a'))).setCell ⟨g, 1, none⟩ (.int .u32 (q * n'))) := hE4.2.mono hBg (by decide)
  have hbx4 := hE4.2.blk hbx2 (by decide)
  have hM4 := CW.IsMs.ft hM2 hE4.2 (by decide) (by decide) (by decide)
  have hF5 := hF2.trans hF4
  have hbd : Bd (o, c, h, l + q * a') 100000 := ⟨hc0, hc1, by show 0 ≤ l + q * a'; omega, by show l + q * a' < 8589934592; omega, hh, hoh⟩
  have hE5 := hE4.1
  have hm2 : m ≤ 2 := by rw [HM.out]; exact many_le _
  generalize ((w2.drewN nq).setCell ⟨g, 5, none⟩ (.int .u64 (l + q * a'))).setCell ⟨g, 1, none⟩ (.int .u32 (q * n')) = w5 at *
  clear hE2 hM2 hbx2 e0 e1 e5 y0 y1 f1 f5 hE3 hE4 hF4 hF2 hb2
  go_loopw [10] (fun v wr => ∃ j : Nat, j ≤ m ∧ v = .int .i64 j ∧ ∃ ovj, IsE wr g mv (q * n' * pw j) ovj (shs j (o, c, h, l + q * a')).1 (shs j (o, c, h, l + q * a')).2.1 (shs j (o, c, h, l + q * a')).2.2.1 (shs j (o, c, h, l + q * a')).2.2.2 ∧ Ft B [78, 5, 103, 3] w wr ∧ Blk wr b 41 #[.int .i64 k, .int .i64 s] ∧ IsMs wr B mv ps C) (fun v _ => m - (intOf v).toNat)
  case atStart => exact ⟨0, Nat.zero_le _, rfl, ov, by rw [pw_zero, Int.mul_one]; exact hE5, hF5, hbx4, hM4⟩
  case round =>
    clear hE5 hF5 hbx4 hM4
    obtain ⟨j, hj, rfl, ovj, hE6, hF6, hbx6, hM6⟩ := hrel
    have hbd6 := hbd.shs j
    have z1 : wr.cell? ⟨g, 1, none⟩ = some (.int .u32 (q * n' * pw j)) := hE6.blk.cell 1
    have zf1 := hE6.blk.frozen 1
    have hpj := pw_pos j
    have hr0 : 0 ≤ q * n' * pw j := Int.mul_nonneg (by omega) (by omega)
    by_cases hjm : j < m
    · have hr1 : q * n' * pw j < 16777216 := many_lt hqn (by rw [← HM.out]; exact hjm)
      have hrs : q * n' * pw (j + 1) = q * n' * pw j * 256 := by rw [pw_succ, ← Int.mul_assoc (q * n')]
      have hss := shs_succ j (o, c, h, l + q * a')
      generalize hr : q * n' * pw j = r at *
      have HRS := Lib.hid hrs
      have HSS := Lib.hid hss
      generalize shs j (o, c, h, l + q * a') = sj at *
      clear hpj hrs hss hr
      obtain ⟨oj, cj, hhj, lj⟩ := sj
      obtain ⟨b1, b2, b3, b4, b5, b6⟩ := hbd6
      simp only at b1 b2 b3 b4 b5 b6 hE6
      go_wp2_with fail
      have hE7 := IsE.setR (Ft.refl g [78, 5] wr) hE6 (r * 256)
      refine (shift_any _ g mv ovj (r * 256) cj lj oj hhj hE7.1 b1 b2 b3 b4 b5 (by omega) (by omega)).mono ?_
      rintro e w7 ⟨rfl, ov7, hE8, hF8⟩
      go_wp2_with fail
      go_roundw
      case rel =>
        have hF9 := hE7.2.trans hF8
        refine ⟨j + 1, by omega, by go_num, ov7, ?_, hF6.trans (hF9.mono hBg (by decide)), hF9.blk hbx6 (by decide), CW.IsMs.ft hM6 hF9 (by decide) (by decide) (by decide)⟩
        rw [HRS.out, HSS.out]
        exact hE8
      case measure => simp [intOf]; omega
    · obtain rfl : j = m := by omega
      have hr2 : 16777216 ≤ q * n' * pw j := by
        have := (many_mul hqn (by omega)).1
        rw [← HM.out] at this
        exact this
      have dr : decide (q * n' * pw j < 16777216) = false := decide_eq_false (by omega)
      have y0 : wr.drew.cell? ⟨b, 0, none⟩ = some (.int .i64 k) := hbx6.cell 0
      have y1 : wr.drew.cell? ⟨b, 1, none⟩ = some (.int .i64 s) := hbx6.cell 1
      have hC := Lib.hid (count41 wr.drew g B mv ps C k s (hE6.drew.blk.cell 0) (CW.IsMs.ft hM6 ((Ft.refl B [] wr).drew) (by decide) (by decide) (by decide)) HMS.out hl HSH.out)
      go_wp2_with fail
      go_region_with (go_at_call 41; (with_reducible refine hC.out.mono ?_); rintro e w8 ⟨rfl, hM8, hF8⟩)
      go_wp2_with fail
      go_ret2
      refine ⟨rfl, ovj, ?_, hM8, (hF6.drew).trans (hF8.mono (Nat.le_refl _) (by decide))⟩
      exact hE6.drew.ft hF8 (by decide) (by decide)
set_option maxHeartbeats 1000000 in
set_option maxRecDepth 100000 in
theorem end26 (w : World) (g : Nat) (mv ov : Value) (R c l : Int) (o : List Int) (h : Nat) (hE : IsE w g mv R ov o c h l) (hb : Bd (o, c, h, l) 100000) :
    Calls Try.prog 26 #[.pointer (some ⟨g, 0, none⟩)] w fun e w' => ∃ ov', e = .returned ov' ∧ Kd.R (Kd.int .u8) 5 w' (g + 1) (fun _ => True) ov' (shs 5 (o, c, h, l)).1 ∧ Ft g [78, 5] w w' := by
  go_enter Try.func26, Try.ntmps26
  go_wp2_with fail
  go_loopw [3] (fun v wr => ∃ j : Nat, j ≤ 5 ∧ v = .int .i64 j ∧ ∃ ovj, IsE wr g mv R ovj (shs j (o, c, h, l)).1 (shs j (o, c, h, l)).2.1 (shs j (o, c, h, l)).2.2.1 (shs j (o, c, h, l)).2.2.2 ∧ Ft g [78, 5] w wr) (fun v _ => 5 - (intOf v).toNat)
  case atStart => exact ⟨0, by omega, rfl, ov, hE, Ft.refl _ _ _⟩
  case round =>
    clear hE
    obtain ⟨j, hj, rfl, ovj, hE6, hF6⟩ := hrel
    have hbd6 := hb.shs j
    by_cases hjm : j < 5
    · have hss := shs_succ j (o, c, h, l)
      have HSS := Lib.hid hss
      generalize shs j (o, c, h, l) = sj at *
      clear hss
      obtain ⟨oj, cj, hhj, lj⟩ := sj
      obtain ⟨b1, b2, b3, b4, b5, b6⟩ := hbd6
      simp only at b1 b2 b3 b4 b5 b6 hE6
      go_wp2_with fail
      refine (shift_any _ g mv ovj R cj lj oj hhj hE6 b1 b2 b3 b4 b5 (by omega) (by omega)).mono ?_
      rintro e w7 ⟨rfl, ov7, hE8, hF8⟩
      go_wp2_with fail
      go_roundw
      case rel =>
        refine ⟨j + 1, by omega, by go_num, ov7, ?_, hF6.trans hF8⟩
        rw [HSS.out]
        exact hE8
      case measure => simp [intOf]; omega
    · obtain rfl : j = 5 := by omega
      have z2 : wr.cell? ⟨g, 2, none⟩ = some ovj := hE6.blk.cell 2
      obtain ⟨A, n, rfl⟩ := Kd.R_slice hE6.row
      go_wp2_with fail
      go_ret
      exact ⟨_, rfl, hE6.row, hF6⟩
end Go.Proofs.Ythegimfokcdehaa.CW
