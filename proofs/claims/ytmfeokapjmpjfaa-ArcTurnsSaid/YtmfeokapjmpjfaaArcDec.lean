/- arc.Decode's contract in the print's form. -/
import Derived.Test.YtmfeokapjmpjfaaArcNums
namespace Go.Proofs.Ytmfeokapjmpjfaa.ArcW
open Go Go.RowKit Go.Proofs.Ytmfeokapjmpjfaa.Mem Go.Proofs.Ytmfeokapjmpjfaa.PArc Go.Proofs.YtmfeokapjmpjfaaW.PrintWords Go.Proofs.YtmfeokapjmpjfaaW.PrintLast Go.Proofs.YtmfeokapjmpjfaaW.PrintMore
set_option linter.unusedVariables false
set_option linter.unusedSimpArgs false

theorem scope_body {P : Program} {fn : Func} {R : Ending → World → Prop} {c : Code} {a : Act} {w : World} (h : c.wp P (bodyPost P fn R) a w) : (Code.scope c).wp P (bodyPost P fn R) a w :=
  wp_scope_straight (by rw [show Exit.noGoto (bodyPost P fn R) = bodyPost P fn R from by funext e a w; cases e <;> rfl]; exact h)

theorem num_nat {G : Int → Int × Int × Int} (hN : ∀ a, 0 ≤ (G a).1 ∧ (G a).1 < 18446744073709551616) (at_ : Int) (bad : Bool) : ∃ n : Nat, (numS G at_ bad).1 = n ∧ n < 18446744073709551616 := by
  unfold numS
  have := hN at_
  split
  · exact ⟨0, rfl, by omega⟩
  · exact ⟨((G at_).1).toNat, by simp; omega, by omega⟩

theorem pts_bad' (G : Int → Int × Int × Int) (m : Nat) (a : Int) (p : S48) (acc : List S48) : ptsS G m a true p acc = (a, true, p, acc) := by
  cases m with
  | zero => rfl
  | succ m => rw [ptsS, if_pos rfl]
theorem freshK {w : World} {g k : Nat} (h : g < w.heap.size) (hk : w.heap.size ≤ k) : k ≠ g := by omega

set_option maxHeartbeats 8000000 in
set_option maxRecDepth 100000 in
theorem decode_calls (w : World) (A : Option Addr) (l : List Int) (c : Nat) (G : Int → Int × Int × Int) (hG : ∀ a, ∃ k, vint_Get.f k l a = some (G a)) (hN : ∀ a, 0 ≤ (G a).1 ∧ (G a).1 < 18446744073709551616) (hl : l.length ≤ 100000) (ch : Int) (k0 : Nat) (hch : arc_Check.f k0 (decS G l.length).2.2 = some ch) (hr0 : Kd.C (Kd.int .u8) w A l.length l) (hc : l.length ≤ c) :
    Calls Try.prog 12 #[.slice A l.length c] w fun e w' => ∃ v0_ : Value, e = .returned (.tuple #[v0_, .int .i64 (if ((decS G l.length).2.1 || decide ((decS G l.length).1 ≠ l.length) || decide (ch ≠ 0)) = true then 11 else 0)]) ∧ Kd.S (Kd.slice 48 k48) 44 w' w.heap.size (fun _ => True) v0_ (if ((decS G l.length).2.1 || decide ((decS G l.length).1 ≠ l.length) || decide (ch ≠ 0)) = true then [] else (decS G l.length).2.2) ∧ Below w.heap.size w w' := by
  obtain ⟨D, hD⟩ : ∃ D, D = decS G l.length := ⟨_, rfl⟩
  rw [← hD] at hch ⊢
  unfold decS at hD
  obtain ⟨n, hn, hn64⟩ := num_nat hN 0 false
  rw [hn, Int.toNat_natCast] at hD
  have HD := Lib.hid hD
  have HCH := Lib.hid hch
  clear hD hch
  go_enter Try.func12, Try.ntmps12
  go_wp2_with fail
  apply scope_body
  go_wp2_with fail
  refine (num_calls _ w.heap.size A l c 0 false G hG ?hr hc ?h).mono ?_
  case hr => exact Kd.C_alloc hr0 _
  case h => exact Blk.here _ _ _
  rintro e w2 ⟨rfl, h2, ho2⟩
  have hb2 : Below w.heap.size w w2 := ((Below.refl w.heap.size w).alloc (Nat.le_refl _) _).trans (ho2.below (Nat.le_refl _) (Nat.le_refl _) (by simp))
  have hs2 : w.heap.size + 1 ≤ w2.heap.size := by have := ho2.size; simp at this; exact this
  clear ho2
  have hd := HD.out
  clear HD
  rw [hn]
  generalize (numS G 0 false).2.1 = at0 at *
  generalize (numS G 0 false).2.2 = bad0 at *
  clear hn
  have HD := Lib.hid hd
  clear hd
  go_wp2_with fail
  go_step3
  have hg2 := Blk.here w2 48 #[.int .i64 0, .int .i64 0, .int .i64 0]
  have h3 : IsR (w2.alloc (.cells #[.int .i64 0, .int .i64 0, .int .i64 0] 48)) w.heap.size A l.length c at0 bad0 := h2.alloc _
  have hb3 := below_alloc hb2 (.cells #[.int .i64 0, .int .i64 0, .int .i64 0] 48)
  have hgl : w.heap.size + 1 ≤ w2.heap.size := hs2
  generalize hgd : w2.heap.size = gl at *
  generalize w2.alloc (.cells #[.int .i64 0, .int .i64 0, .int .i64 0] 48) = w3 at *
  clear h2 hb2 hs2 hgd
  go_wp2_with fail
  go_loopw [6, 17] (fun vo vi wr => ∃ (o : List (List S48)) (i : Nat) (at_ : Int) (bad : Bool) (p : S48), vi = .int .u64 i ∧ i ≤ n ∧ IsR wr w.heap.size A l.length c at_ bad ∧ Blk wr gl 48 #[.int .i64 p.f0, .int .i64 p.f1, .int .i64 p.f2] ∧ Kd.S (Kd.slice 48 k48) 44 wr w.heap.size (fun k => k ≠ w.heap.size ∧ k ≠ gl) vo o ∧ Below w.heap.size w wr ∧ arcsS G l.length (n - i) at_ bad p o = D) (fun vo vi _ => n - (intOf vi).toNat)
  case atStart =>
    exact ⟨[], 0, at0, bad0, z48, rfl, Nat.zero_le _, h3, hg2, Kd.S_nil _ _ _ _ _, hb3, HD.out.symm⟩
  case round =>
    obtain ⟨o, i, at_, bad, p, rfl, hi, h, hg, hS, hb, hr⟩ := hrel
    obtain ⟨Ao, co, rfl⟩ := Kd.S_slice hS
    by_cases hlt : i < n
    · have dlt : decide ((i : Int) < (n : Int)) = true := decide_eq_true (by omega)
      rw [show n - i = (n - (i + 1)) + 1 by omega, arcsS] at hr
      have HR := Lib.hid hr
      clear hr
      go_wp2_with fail
      refine (num_calls wr w.heap.size A l c at_ bad G hG (Kd.C_below hr0 hb) hc h).mono ?_
      rintro e w4 ⟨rfl, h4, ho4⟩
      have hS4 := Kd.S_step hS (fun k hk hk2 => ho4.block k hk2 hk.1 hk.1)
      have hg4 := hg.only ho4 (by omega) (by omega)
      have hb4 := hb.trans (ho4.below (Nat.le_refl _) (Nat.le_refl _) hb.size)
      clear ho4 hS hg hb h
      have hr := HR.out
      clear HR
      obtain ⟨kk, hkk, hk64⟩ := num_nat hN at_ bad
      rw [hkk] at hr ⊢
      rw [Int.toNat_natCast] at hr
      generalize (numS G at_ bad).2.1 = a1 at *
      generalize (numS G at_ bad).2.2 = b1 at *
      clear hkk at_ bad
      have HR := Lib.hid hr
      clear hr
      have r2 : w4.cell? ⟨w.heap.size, 2, none⟩ = some (.bool b1) := h4.cell 2
      have rf : w4.frozen? ⟨w.heap.size, 2, none⟩ = false := h4.frozen 2
      cases b1 with
      | true =>
        have hD := HR.out
        simp only [Bool.true_or, if_true] at hD
        subst hD
        clear HR
        go_wp2
        go_ret2
        exact ⟨_, rfl, Kd.S_nil _ _ _ _ _, hb4.setCell (p := ⟨w.heap.size, 2, none⟩) (Nat.le_refl _) _⟩
      | false =>
        by_cases hkl : (kk : Int) > (l.length : Int)
        · have dkl : decide ((kk : Int) > (l.length : Int)) = true := decide_eq_true hkl
          have dkl' : decide ((l.length : Int) < (kk : Int)) = true := decide_eq_true hkl
          have hD := HR.out
          simp only [dkl, Bool.true_or, Bool.or_true, if_true] at hD
          subst hD
          clear HR
          go_wp2
          go_ret2
          exact ⟨_, rfl, Kd.S_nil _ _ _ _ _, hb4.setCell (p := ⟨w.heap.size, 2, none⟩) (Nat.le_refl _) _⟩
        · have dkl : decide ((kk : Int) > (l.length : Int)) = false := decide_eq_false hkl
          have dkl' : decide ((l.length : Int) < (kk : Int)) = false := decide_eq_false hkl
          have dklN : decide (l.length < kk) = false := decide_eq_false (by omega)
          by_cases hol : o.length > l.length
          · have dol : decide (o.length > l.length) = true := decide_eq_true hol
            have dol' : decide ((o.length : Int) > (l.length : Int)) = true := decide_eq_true (by omega)
            have dol2 : decide ((l.length : Int) < (o.length : Int)) = true := decide_eq_true (by omega)
            have hD := HR.out
            simp only [dol, Bool.true_or, Bool.or_true, if_true] at hD
            subst hD
            clear HR
            go_wp2
            go_ret2
            exact ⟨_, rfl, Kd.S_nil _ _ _ _ _, hb4.setCell (p := ⟨w.heap.size, 2, none⟩) (Nat.le_refl _) _⟩
          · have dol : decide (o.length > l.length) = false := decide_eq_false hol
            have dol' : decide ((o.length : Int) > (l.length : Int)) = false := decide_eq_false (by omega)
            have dol2 : decide ((l.length : Int) < (o.length : Int)) = false := decide_eq_false (by omega)
            have hD := HR.out
            simp only [dol, dkl, Bool.or_self, Bool.false_eq_true, if_false] at hD
            clear HR
            obtain ⟨E, hE⟩ : ∃ E, E = ptsS G kk a1 false p [] := ⟨_, rfl⟩
            rw [← hE] at hD
            have HR := Lib.hid hD
            have HE := Lib.hid hE
            clear hD hE
            go_wp2_with fail
            go_loopw [9, 10] (fun va vj wr => ∃ (a : List S48) (j : Nat) (at_ : Int) (bad : Bool) (p : S48), vj = .int .u64 j ∧ j ≤ kk ∧ a.length = j ∧ IsR wr w.heap.size A l.length c at_ bad ∧ Blk wr gl 48 #[.int .i64 p.f0, .int .i64 p.f1, .int .i64 p.f2] ∧ Kd.S (Kd.slice 48 k48) 44 wr w.heap.size (fun k => (k ≠ w.heap.size ∧ k ≠ gl) ∧ some k ≠ va.ownBlock) (.slice Ao o.length co) o ∧ Kd.R k48 48 wr w.heap.size (fun k => k ≠ w.heap.size ∧ k ≠ gl) va a ∧ Below w.heap.size w wr ∧ ptsS G (kk - j) at_ bad p a = E) (fun va vj _ => kk - (intOf vj).toNat)
            case atStart =>
              exact ⟨[], 0, a1, false, p, rfl, Nat.zero_le _, rfl, h4, hg4, Kd.S_apart_nil hS4, Kd.R_nil _ _ _ _ _, hb4, HE.out.symm⟩
            case round =>
              clear h4 hg4 hS4 hb4 r2 rf HE
              obtain ⟨a, j, at2, bad2, p2, rfl, hj, hja, h, hg, hS, hR, hb, hr⟩ := hrel
              obtain ⟨Aa, ca, rfl⟩ := Kd.R_slice hR
              subst hja
              have r2 : wr.cell? ⟨w.heap.size, 2, none⟩ = some (.bool bad2) := h.cell 2
              by_cases hjk : a.length < kk
              · have djk : decide ((a.length : Int) < (kk : Int)) = true := decide_eq_true (by omega)
                cases bad2 with
                | true =>
                  rw [pts_bad'] at hr
                  subst hr
                  go_wp2_with (first | ((with_reducible refine gate_builtin (b := .append) (xs := #[.tmp 61, .tmp 63]) rfl ?_); at_builtin; refine Kd.S_append (Kd.slice 48 k48) (w0 := w) w.heap.size rfl (.tmp 61) (.tmp 63) 22 44 (.slice none 0 0) 24 rfl Try.underlying22 info44 rfl (by decide) (by omega) (.slice Ao o.length co) o a [.slice Aa a.length ca] (fun k => k ≠ w.heap.size ∧ k ≠ gl) (fun k => some k = (.slice Aa a.length ca : Value).ownBlock) rfl rfl ?aP (fun k hk => ((Kd.R_mono (ok' := fun k => (k ≠ w.heap.size ∧ k ≠ gl) ∧ some k ≠ (.slice Ao o.length co : Value).ownBlock) (Kd.R_apart' hR (Kd.S_typed hS) (by decide)) (fun k hk => ⟨hk.1, hk.2⟩))).1 k hk.symm) ?aF ?aO ?aB ?aS ?aL ?_; (case aP => exact Kd.M_row (Kd.R_mono (Kd.R_tight rfl hR) (fun _ h => h))); (case aF => exact fun k hk => ⟨freshK h.lt hk, freshK hg.lt hk⟩); (case aO => exact Kd.S_mono hS (fun k hk => ⟨hk.1, fun e => hk.2 e⟩)); (case aB => exact hb); (case aS => exact hb.size); (case aL => omega); intro vo8 w8 hS8 hb8 hgr8 hat8; have h8 := h.grown hgr8 (Kd.S_ne hS h (by decide)); have hg8 := hg.grown hgr8 (Kd.S_ne hS hg (by decide)); clear hR h hg hS hb hgr8 hat8))
                  go_roundw
                  case rel =>
                    refine ⟨o ++ [a], i + 1, at2, true, p2, by go_num, by omega, h8, hg8, hS8, hb8, ?_⟩
                    exact HR.out
                  case measure => simp [intOf]; omega
                | false =>
                  rw [show kk - a.length = (kk - (a.length + 1)) + 1 by omega, ptsS, if_neg (by decide)] at hr
                  have HE := Lib.hid hr
                  clear hr
                  have g0 : wr.cell? ⟨gl, 0, none⟩ = some (.int .i64 p2.f0) := hg.cell 0
                  have g1 : wr.cell? ⟨gl, 1, none⟩ = some (.int .i64 p2.f1) := hg.cell 1
                  have g2 : wr.cell? ⟨gl, 2, none⟩ = some (.int .i64 p2.f2) := hg.cell 2
                  go_wp2_with fail
                  refine (point_calls w wr w.heap.size A l c at2 false p2 G hG hr0 hc h hb (Nat.le_refl _)).mono ?_
                  rintro e w5 ⟨rfl, h5, ho5⟩
                  have hS5 := Kd.S_step hS (fun k hk hk2 => ho5.block k hk2 hk.1.1 hk.1.1)
                  have hR5 := Kd.R_step hR (fun k hk hk2 => ho5.block k hk2 hk.1 hk.1)
                  have hg5 := hg.only ho5 (by omega) (by omega)
                  have hb5 := hb.trans (ho5.below (Nat.le_refl _) (Nat.le_refl _) hb.size)
                  have hE := HE.out
                  clear HE ho5 hS hR hg hb h g0 g1 g2 r2
                  generalize (pointS G at2 false p2).2.1 = at3 at *
                  generalize (pointS G at2 false p2).2.2 = bad3 at *
                  generalize (pointS G at2 false p2).1 = q at *
                  have HE := Lib.hid hE
                  clear hE
                  have g0 : w5.cell? ⟨gl, 0, none⟩ = some (.int .i64 p2.f0) := hg5.cell 0
                  have g1 : w5.cell? ⟨gl, 1, none⟩ = some (.int .i64 p2.f1) := hg5.cell 1
                  have g2 : w5.cell? ⟨gl, 2, none⟩ = some (.int .i64 p2.f2) := hg5.cell 2
                  have z0 : w5.frozen? ⟨gl, 0, none⟩ = false := hg5.frozen 0
                  have z1 : w5.frozen? ⟨gl, 1, none⟩ = false := hg5.frozen 1
                  have z2 : w5.frozen? ⟨gl, 2, none⟩ = false := hg5.frozen 2
                  have ngl : w.heap.size ≠ gl := by omega
                  have h6 : IsR (((w5.setCell ⟨gl, 0, none⟩ (.int .i64 q.f0)).setCell ⟨gl, 1, none⟩ (.int .i64 q.f1)).setCell ⟨gl, 2, none⟩ (.int .i64 q.f2)) w.heap.size A l.length c at3 bad3 := ((h5.far (p := ⟨gl, 0, none⟩) ngl _).far (p := ⟨gl, 1, none⟩) ngl _).far (p := ⟨gl, 2, none⟩) ngl _
                  have hg6 : Blk (((w5.setCell ⟨gl, 0, none⟩ (.int .i64 q.f0)).setCell ⟨gl, 1, none⟩ (.int .i64 q.f1)).setCell ⟨gl, 2, none⟩ (.int .i64 q.f2)) gl 48 #[.int .i64 q.f0, .int .i64 q.f1, .int .i64 q.f2] := ((hg5.set_ 0 (.int .i64 q.f0)).set_ 1 (.int .i64 q.f1)).set_ 2 (.int .i64 q.f2)
                  have hS6 := Kd.S_far (p := ⟨gl, 2, none⟩) (Kd.S_far (p := ⟨gl, 1, none⟩) (Kd.S_far (p := ⟨gl, 0, none⟩) hS5 (fun k hk => hk.1.2) (.int .i64 q.f0)) (fun k hk => hk.1.2) (.int .i64 q.f1)) (fun k hk => hk.1.2) (.int .i64 q.f2)
                  have hR6 := Kd.R_far (p := ⟨gl, 2, none⟩) (Kd.R_far (p := ⟨gl, 1, none⟩) (Kd.R_far (p := ⟨gl, 0, none⟩) hR5 (fun k hk => hk.2) (.int .i64 q.f0)) (fun k hk => hk.2) (.int .i64 q.f1)) (fun k hk => hk.2) (.int .i64 q.f2)
                  have hb6 := ((hb5.setCell (p := ⟨gl, 0, none⟩) (by simp; omega) (.int .i64 q.f0)).setCell (p := ⟨gl, 1, none⟩) (by simp; omega) (.int .i64 q.f1)).setCell (p := ⟨gl, 2, none⟩) (by simp; omega) (.int .i64 q.f2)
                  clear h5 hg5 hS5 hR5 hb5
                  go_wp2_with (first | ((with_reducible refine gate_builtin (b := .append) (xs := #[.tmp 57, .tmp 59]) rfl ?_); at_builtin; refine Kd.R_append k48 (w0 := w) w.heap.size rfl (.tmp 57) (.tmp 59) 44 48 (.agg #[.int .i64 0, .int .i64 0, .int .i64 0]) 24 rfl Try.underlying44 info48 rfl (by decide) (by omega) (.slice Aa a.length ca) a q [.int .i64 q.f0, .int .i64 q.f1, .int .i64 q.f2] (fun k => k ≠ w.heap.size ∧ k ≠ gl) (fun _ => False) rfl ?aX ?aP (fun _ hk => hk.elim) ?aF ?aO ?aB ?aS ?aL ?_; (case aX => show Value.slice (some ⟨w5.heap.size, 0, none⟩) 1 1 = Value.slice (some ⟨_, 0, none⟩) 1 1; simp [World.setCell]); (case aP => exact k48_mkM _ _ _ q); (case aF => exact fun k hk => ⟨freshK h6.lt hk, freshK hg6.lt hk⟩); (case aO => exact hR6); (case aB => exact hb6); (case aS => exact hb6.size); (case aL => omega); intro va7 w7 hR7 hb7 hgr7 hat7; have h7 := h6.grown hgr7 (Kd.R_away hR6 (fun _ hk => hk.1)); have hg7 := hg6.grown hgr7 (Kd.R_away hR6 (fun _ hk => hk.2)); have hS7 := Kd.S_after hS6 hgr7 hat7; clear hR6 h6 hg6 hS6 hb6 hgr7 hat7))
                  go_roundw
                  case rel =>
                    exact ⟨a ++ [q], a.length + 1, at3, bad3, q, by go_num, by omega, by simp, h7, hg7, hS7, hR7, hb7, HE.out⟩
                  case measure => simp [intOf]; omega
              · have djk : decide ((a.length : Int) < (kk : Int)) = false := decide_eq_false (by omega)
                rw [show kk - a.length = 0 by omega, ptsS] at hr
                subst hr
                go_wp2_with (first | ((with_reducible refine gate_builtin (b := .append) (xs := #[.tmp 61, .tmp 63]) rfl ?_); at_builtin; refine Kd.S_append (Kd.slice 48 k48) (w0 := w) w.heap.size rfl (.tmp 61) (.tmp 63) 22 44 (.slice none 0 0) 24 rfl Try.underlying22 info44 rfl (by decide) (by omega) (.slice Ao o.length co) o a [.slice Aa a.length ca] (fun k => k ≠ w.heap.size ∧ k ≠ gl) (fun k => some k = (.slice Aa a.length ca : Value).ownBlock) rfl rfl ?aP (fun k hk => ((Kd.R_mono (ok' := fun k => (k ≠ w.heap.size ∧ k ≠ gl) ∧ some k ≠ (.slice Ao o.length co : Value).ownBlock) (Kd.R_apart' hR (Kd.S_typed hS) (by decide)) (fun k hk => ⟨hk.1, hk.2⟩))).1 k hk.symm) ?aF ?aO ?aB ?aS ?aL ?_; (case aP => exact Kd.M_row (Kd.R_mono (Kd.R_tight rfl hR) (fun _ h => h))); (case aF => exact fun k hk => ⟨freshK h.lt hk, freshK hg.lt hk⟩); (case aO => exact Kd.S_mono hS (fun k hk => ⟨hk.1, fun e => hk.2 e⟩)); (case aB => exact hb); (case aS => exact hb.size); (case aL => omega); intro vo8 w8 hS8 hb8 hgr8 hat8; have h8 := h.grown hgr8 (Kd.S_ne hS h (by decide)); have hg8 := hg.grown hgr8 (Kd.S_ne hS hg (by decide)); clear hR h hg hS hb hgr8 hat8))
                go_roundw
                case rel =>
                  refine ⟨o ++ [a], i + 1, at2, bad2, p2, by go_num, by omega, h8, hg8, hS8, hb8, ?_⟩
                  exact HR.out
                case measure => simp [intOf]; omega
    · have dlt : decide ((i : Int) < (n : Int)) = false := decide_eq_false (by omega)
      rw [show n - i = 0 by omega, arcsS] at hr
      subst hr
      have r1 : wr.cell? ⟨w.heap.size, 1, none⟩ = some (.int .i64 at_) := h.cell 1
      have r2 : wr.cell? ⟨w.heap.size, 2, none⟩ = some (.bool bad) := h.cell 2
      clear hG hN h3 hb3 hg2 HD
      cases bad with
      | true =>
        go_wp2
        go_ret2
        exact ⟨_, rfl, Kd.S_nil _ _ _ _ _, hb⟩
      | false =>
        by_cases hat : at_ = l.length
        · have dat : (at_ != (l.length : Int)) = false := by simp [hat]
          have dat2 : decide (at_ = (l.length : Int)) = true := decide_eq_true hat
          have dat3 : decide (at_ ≠ (l.length : Int)) = false := by simp [hat]
          go_wp2_with fail
          refine (arc_Check.calls k0 Ao co o ch wr (Kd.S_reads' hS).2.2 (Kd.S_reads' hS).2.1 HCH.out).mono ?_
          rintro e w9 ⟨rfl, hb9⟩
          have hS9 := Kd.S_below hS hb9
          have hb10 := hb.trans (hb9.mono hb.size)
          by_cases hc0 : ch = 0
          · have dc : (ch != 0) = false := by simp [hc0]
            subst hc0
            go_wp2
            go_ret2
            refine ⟨.slice Ao o.length co, by simp [dat3], ?_, hb10⟩
            exact Kd.S_mono hS9 (fun _ _ => trivial)
          · have dc : (ch != 0) = true := by simp [hc0]
            go_wp2
            go_ret2
            refine ⟨.slice none 0 0, by simp [hc0], ?_, hb10⟩
            exact Kd.S_nil _ _ _ _ _
        · have dat : (at_ != (l.length : Int)) = true := by simp [hat]
          have dat2 : decide (at_ = (l.length : Int)) = false := decide_eq_false hat
          have dat3 : decide (at_ ≠ (l.length : Int)) = true := by simp [hat]
          go_wp2
          go_ret2
          refine ⟨.slice none 0 0, by simp [hat], ?_, hb⟩
          exact Kd.S_nil _ _ _ _ _
end Go.Proofs.Ytmfeokapjmpjfaa.ArcW
