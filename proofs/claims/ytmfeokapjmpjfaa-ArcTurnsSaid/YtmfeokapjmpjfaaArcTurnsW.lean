/- Without the document's answer: backwards twice is as it was; the first one is the last one; what may be may be backwards; whether any two are the same is what the chapter says. -/
import Derived.Test.YtmfeokapjmpjfaaArcTurnsP
import Derived.Test.YtmfeokapjmpjfaaArcRows
namespace Go.Proofs.Ytmfeokapjmpjfaa.ArcR
open Go Go.RowKit Go.ChangeShapes Go.WideShapes Go.Proofs.Ytmfeokapjmpjfaa.Opens Go.Proofs.Ytmfeokapjmpjfaa.VB Go.Proofs.Ytmfeokapjmpjfaa.PArc Go.Proofs.Ytmfeokapjmpjfaa.ArcW Go.Proofs.YtmfeokapjmpjfaaW.PrintWords Go.Proofs.YtmfeokapjmpjfaaW.PrintLast Go.Proofs.YtmfeokapjmpjfaaW.PrintMore
attribute [local go_sem] max2_int min2_int max_two min_two max_three min_three max_four min_four
set_option linter.unusedVariables false
set_option linter.unusedSimpArgs false

/-- A new row of one row that came in. -/
theorem one_row {w : World} {A : Option Addr} {a : List S48} {c : Nat} (hr : Kd.C k48 w A a.length a) (hc : a.length ≤ c) : Kd.C (Kd.slice 48 k48) (w.alloc (.cells #[.slice A a.length c] 44)) (some ⟨w.heap.size, 0, none⟩) [a].length [a] := by
  refine ⟨rfl, by simp, fun _ => ⟨_, rfl, fun j p hj => ?_⟩⟩
  obtain ⟨hj0, hp⟩ : j = 0 ∧ p = a := by
    cases j with
    | zero => simp at hj; exact ⟨rfl, hj.symm⟩
    | succ j => simp at hj
  subst hj0; subst hp
  refine ⟨[.slice A p.length c], rfl, ⟨A, c, rfl, hc, Kd.C_alloc hr _⟩, fun i u hu => ?_⟩
  cases i with
  | zero =>
    simp at hu
    subst hu
    exact (Mem.Blk.here w 44 #[.slice A p.length c]).cell 0
  | succ i => simp at hu

theorem below_drawn {B : Nat} {w w' : World} (h : Drawn0 w w') : Below B w w' := by
  obtain ⟨n, rfl⟩ := h
  exact pw_below_drewN (Below.refl _ _) n

set_option maxHeartbeats 8000000 in
set_option maxRecDepth 100000 in
theorem turns_walk (W : World) (A : Option Addr) (a : List S48) (c : Nat) (hr : Kd.C k48 W A a.length a) (hc : a.length ≤ c) (hg : a.length * Try.prog.bytesOf 48 ≤ reachBytes ∧ ∀ p ∈ a, Rgood48 p)
    (A1 : Option Addr) (l : List (List S48)) (c1_ : Nat) (hr1 : Kd.C (Kd.slice 48 k48) W A1 l.length l) (hc1 : l.length ≤ c1_) (hg1 : l.length * Try.prog.bytesOf 44 ≤ reachBytes ∧ ∀ z ∈ l, z.length * Try.prog.bytesOf 48 ≤ reachBytes ∧ ∀ p ∈ z, Rgood48 p)
    (A2 : Option Addr) (m : List (List S48)) (c2_ : Nat) (hr2 : Kd.C (Kd.slice 48 k48) W A2 m.length m) (hc2 : m.length ≤ c2_) (hg2 : m.length * Try.prog.bytesOf 44 ≤ reachBytes ∧ ∀ z ∈ m, z.length * Try.prog.bytesOf 48 ≤ reachBytes ∧ ∀ p ∈ z, Rgood48 p) :
    Calls Try.prog 7 #[.slice A a.length c, .slice A1 l.length c1_, .slice A2 m.length c2_] W fun e W' => e = .returned (.bool true) ∧ Below W.heap.size W W' := by
  have hl := okL_good hg1
  have hm := okL_good hg2
  obtain ⟨kn, hkn⟩ := known_ev.rounds
  obtain ⟨b1, hb1⟩ := long_any hl.1
  obtain ⟨k1, hk1⟩ := hb1.rounds
  obtain ⟨b2, hb2⟩ := long_any hm.1
  obtain ⟨k2, hk2⟩ := hb2.rounds
  clear hb1 hb2
  have hu48 := Try.underlying48
  have HKN := Lib.hid hkn
  have HL := Lib.hid hl
  have HM := Lib.hid hm
  have HK1 := Lib.hid hk1
  have HK2 := Lib.hid hk2
  have HR := Lib.hid hr
  have HR1 := Lib.hid hr1
  have HR2 := Lib.hid hr2
  clear hkn hl hm hk1 hk2 hr hr1 hr2 hg hg1 hg2
  by_cases h100 : a.length > 100
  · have d1 : decide ((a.length : Int) > 100) = true := decide_eq_true (by omega)
    have d2 : decide ((100 : Int) < (a.length : Int)) = true := decide_eq_true (by omega)
    have d3 : decide (100 < a.length) = true := decide_eq_true (by omega)
    go_enter Try.func7, Try.ntmps7
    go_wp2_with fail
    refine (lapidarylaw15_known.calls kn true _ HKN.out).mono ?_
    rintro e w1 ⟨rfl, hb⟩
    go_wp2
    go_ret
    exact ⟨rfl, hb⟩
  · have d1 : decide ((a.length : Int) > 100) = false := decide_eq_false (by omega)
    have d2 : decide ((100 : Int) < (a.length : Int)) = false := decide_eq_false (by omega)
    have d3 : decide (100 < a.length) = false := decide_eq_false (by omega)
    go_enter Try.func7, Try.ntmps7
    go_wp2_with fail
    refine (lapidarylaw15_long.calls k1 A1 c1_ l b1 _ HR1.out hc1 HK1.out).mono ?_
    rintro e w1 ⟨rfl, hd⟩
    obtain ⟨n1, rfl⟩ := hd
    cases b1 with
    | true =>
      go_wp2_with fail
      refine (lapidarylaw15_known.calls kn true _ HKN.out).mono ?_
      rintro e w2 ⟨rfl, hb⟩
      go_wp2
      go_ret
      exact ⟨rfl, (pw_below_drewN (Below.refl _ _) n1).trans hb⟩
    | false =>
      go_wp2_with fail
      refine (lapidarylaw15_long.calls k2 A2 c2_ m b2 _ (Kd.C_drewN HR2.out n1) hc2 HK2.out).mono ?_
      rintro e w2 ⟨rfl, hd⟩
      obtain ⟨n2, rfl⟩ := hd
      have hb0 : Below W.heap.size W ((W.drewN n1).drewN n2) := pw_below_drewN (pw_below_drewN (Below.refl _ _) n1) n2
      generalize (W.drewN n1).drewN n2 = w2 at *
      cases b2 with
      | true =>
        go_wp2_with fail
        refine (lapidarylaw15_known.calls kn true _ HKN.out).mono ?_
        rintro e w3 ⟨rfl, hb⟩
        go_wp2
        go_ret
        exact ⟨rfl, hb0.trans (hb.mono hb0.size)⟩
      | false =>
        obtain ⟨R, hRdef⟩ : ∃ R, R = a.reverse := ⟨_, rfl⟩
        have hRl : R.length = a.length := by rw [hRdef, List.length_reverse]
        obtain ⟨kb, hkb⟩ := (back_ev a (by omega)).rounds
        rw [← hRdef] at hkb
        obtain ⟨kc, hkc⟩ := (back_ev R (by omega)).rounds
        rw [hRdef, List.reverse_reverse, ← hRdef] at hkc
        have HKB := Lib.hid hkb
        have HKC := Lib.hid hkc
        have HD := Lib.hid hRdef
        have HRL := Lib.hid hRl
        have q1 : ((R.length : Int) != (a.length : Int)) = false := by rw [hRl]; simp
        have q2 : ((R.length : Int) == (a.length : Int)) = true := by rw [hRl]; simp
        have q3 : (R.length == a.length) = true := by rw [hRl]; simp
        clear hkb hkc hRdef hRl
        go_wp2_with fail
        refine (arc_Back.calls kb A c a R _ (Kd.C_below HR.out hb0) hc HKB.out).mono ?_
        rintro e w3 ⟨v0, rfl, hR3, hb3⟩
        have hB3 := hb0.trans (hb3.mono hb0.size)
        obtain ⟨B, cb, rfl⟩ := Kd.R_slice hR3
        have hR3' := Kd.R_lower hR3 hb0.size
        clear hR3 hb3 hb0
        go_wp2_with fail
        refine (arc_Back.calls kc B cb R a _ (Kd.R_reads' hR3').2.2 (Kd.R_reads' hR3').2.1 HKC.out).mono ?_
        rintro e w4 ⟨v1, rfl, hR4, hb4⟩
        have hB4 := hB3.trans (hb4.mono hB3.size)
        obtain ⟨C, cc, rfl⟩ := Kd.R_slice hR4
        have hRR := Kd.R_below hR3' hb4
        obtain ⟨ks, hks⟩ := (pts_same a (by omega)).rounds
        have HKS := Lib.hid hks
        clear hks hb4 hR3' hB3
        go_wp2_with fail
        refine (lapidaryref07_SamePoints.calls ks C cc a A c a true _ (Kd.R_reads' hR4).2.2 (Kd.R_reads' hR4).2.1 (Kd.C_below HR.out hB4) hc HKS.out).mono ?_
        rintro e w5 ⟨rfl, hd⟩
        obtain ⟨n5, rfl⟩ := hd
        have hB5 := pw_below_drewN hB4 n5
        have hR5 := Kd.R_drewN hRR n5
        clear hRR hR4 hB4 HKB HKC HKS
        generalize w4.drewN n5 = w5 at *
        go_wp2_with fail
        go_loopw [8] (fun v8 wr => ∃ x : Int, v8 = .int .i64 x ∧ 0 ≤ x ∧ x ≤ a.length ∧ Below W.heap.size W wr ∧ Kd.R k48 48 wr W.heap.size (fun _ => True) (.slice B R.length cb) R) (fun v8 _ => a.length - (intOf v8).toNat)
        case atStart => exact ⟨0, rfl, Int.le_refl _, by omega, hB5, hR5⟩
        case round =>
          clear hB5 hR5
          obtain ⟨x, rfl, hx0, hx1, hB, hR⟩ := hrel
          by_cases hlt : x < a.length
          · obtain ⟨i, hi⟩ : ∃ i : Nat, x = (i : Int) := ⟨x.toNat, by omega⟩
            have dl : decide (x < (a.length : Int)) = true := decide_eq_true hlt
            obtain ⟨j, hj⟩ : ∃ j : Nat, j = a.length - 1 - i := ⟨_, rfl⟩
            have E2 := Lib.hid (show IntKind.i64.wrap (IntKind.i64.wrap ((a.length : Int) - 1) - x) = (j : Int) by rw [i64_w, i64_w]; rw [Mem.w64 (x := (a.length : Int) - 1) (by omega) (by omega)]; exact (Mem.w64 (by omega) (by omega)).trans (by omega))
            have p2 : x < (R.length : Int) := by rw [HRL.out]; omega
            have p3 : 0 ≤ IntKind.i64.wrap (IntKind.i64.wrap ((a.length : Int) - 1) - x) := by rw [E2.out]; exact Int.natCast_nonneg j
            have p4 : IntKind.i64.wrap (IntKind.i64.wrap ((a.length : Int) - 1) - x) < (a.length : Int) := by rw [E2.out]; clear p3; omega
            obtain ⟨ad1, x1, x10, x11, x12⟩ := at_T48 (Kd.R_reads' hR).2.2 x hx0 p2
            obtain ⟨ad2, x2, x20, x21, x22⟩ := at_T48 (Kd.C_below HR.out hB) _ p3 p4
            cases x1
            cases x2
            have hq : rd_T48 R x = rd_T48 a (IntKind.i64.wrap (IntKind.i64.wrap ((a.length : Int) - 1) - x)) := by
              rw [E2.out, hi, rdT_nat, rdT_nat, HD.out, rev_at a i (by clear p3 p4; omega), hj]
            rw [hq] at x10 x11 x12
            clear hq
            generalize rd_T48 a (IntKind.i64.wrap (IntKind.i64.wrap ((a.length : Int) - 1) - x)) = q at *
            have HX0 := Lib.hid hx0
            have HX1 := Lib.hid hlt
            have p1 := eq_true hx0
            replace p2 := eq_true p2
            replace p3 := eq_true p3
            replace p4 := eq_true p4
            clear E2 hj hi hx0 hx1 hlt
            go_wp2
            repeat (go_quiet (fail); try go_wp2)
            go_roundw
            case rel =>
              have g0 := HX0.out
              have g1 := HX1.out
              have g2 : wrap64 (x + 1) = x + 1 := Mem.w64 (by omega) (by omega)
              exact ⟨x + 1, by first | rfl | (rw [g2]; done) | (simp only [i64_w]; rw [g2]), by have := HX0.out; omega, by have := HX1.out; omega, by repeat (first | exact hB | apply pw_below_drewN | apply below_drew1), by (with_reducible repeat (first | apply Kd.R_drewN | apply Kd.R_drew)); exact hR⟩
            case measure =>
              have g0 := HX0.out
              have g1 := HX1.out
              have g2 : wrap64 (x + 1) = x + 1 := Mem.w64 (by omega) (by omega)
              simp [intOf, i64_w, g2]
              clear g2
              omega
          · have dl : decide (x < (a.length : Int)) = false := decide_eq_false hlt
            have hs0 := hB.size
            obtain ⟨ch, hch⟩ : ∃ ch, ch = chkS [a] := ⟨_, rfl⟩
            have ok1 : okL [a] := ⟨by simp, fun x hx => by rw [List.mem_singleton] at hx; subst hx; omega⟩
            have ok2 : okL [R] := ⟨by simp, fun x hx => by rw [List.mem_singleton] at hx; subst hx; rw [HRL.out]; omega⟩
            obtain ⟨ka, hka⟩ := (chk_any ok1).rounds
            obtain ⟨kr, hkr⟩ := (chk_any ok2).rounds
            rw [HD.out, ← chk_rev, ← hch] at hkr
            rw [← HD.out] at hkr
            rw [← hch] at hka
            have HKA := Lib.hid hka
            have HKR := Lib.hid hkr
            obtain ⟨r, hs1, hs2⟩ := two_same (m := m) HL.out
            obtain ⟨k3, hs1⟩ := hs1.rounds
            obtain ⟨k4, hs2⟩ := hs2.rounds
            obtain ⟨k5, hs3⟩ := (arc_refl HL.out).rounds
            have H1 := Lib.hid hs1
            have H2 := Lib.hid hs2
            have H3 := Lib.hid hs3
            clear hs1 hs2 hs3 hka hkr ok1 ok2 hch
            have c1 : (ch == ch) = true := by simp
            have c2 : (r == r) = true := by simp
            have c3 : decide (ch = ch) = true := by simp
            go_wp2_with fail
            refine (arc_Check.calls ka (some ⟨wr.heap.size, 0, none⟩) 1 [a] ch _ (one_row (Kd.C_below HR.out hB) hc) (Nat.le_refl _) HKA.out).mono ?_
            rintro e w6 ⟨rfl, hb6⟩
            have hB6 := (below_alloc hB (.cells #[.slice A a.length c] 44)).trans (hb6.mono (by simp; omega))
            have hR6 := Kd.R_below (Kd.R_alloc hR (.cells #[.slice A a.length c] 44)) hb6
            have hs6 := hB6.size
            clear hR hb6 hB
            go_wp2_with fail
            refine (arc_Check.calls kr (some ⟨w6.heap.size, 0, none⟩) 1 [R] ch _ (one_row (Kd.R_reads' hR6).2.2 (Kd.R_reads' hR6).2.1) (Nat.le_refl _) HKR.out).mono ?_
            rintro e w7 ⟨rfl, hb7⟩
            have hB7 := (below_alloc hB6 (.cells #[.slice B R.length cb] 44)).trans (hb7.mono (by simp; omega))
            clear hR6 hb7 hB6
            go_wp2_with fail
            refine (arc_Same.calls k3 A1 c1_ l A2 c2_ m r _ (Kd.C_below HR1.out hB7) hc1 (Kd.C_below HR2.out hB7) hc2 H1.out).mono ?_
            rintro e w8 ⟨rfl, hb8⟩
            have hB8 := hB7.trans (hb8.mono hB7.size)
            clear hb8 hB7
            go_wp2_with fail
            refine (lapidaryref15_Same.calls k4 A1 c1_ l A2 c2_ m r _ (Kd.C_below HR1.out hB8) hc1 (Kd.C_below HR2.out hB8) hc2 H2.out).mono ?_
            rintro e w9 ⟨rfl, hd⟩
            have hB9 := hB8.trans (below_drawn hd)
            clear hd hB8
            go_wp2_with fail
            refine (arc_Same.calls k5 A1 c1_ l A1 c1_ l true _ (Kd.C_below HR1.out hB9) hc1 (Kd.C_below HR1.out hB9) hc1 H3.out).mono ?_
            rintro e w10 ⟨rfl, hb10⟩
            have hB10 := hB9.trans (hb10.mono hB9.size)
            clear hb10 hB9
            go_wp2_with fail
            refine (lapidarylaw15_known.calls kn true _ HKN.out).mono ?_
            rintro e w11 ⟨rfl, hb11⟩
            go_wp2
            go_ret
            exact ⟨rfl, hB10.trans (hb11.mono hB10.size)⟩
end Go.Proofs.Ytmfeokapjmpjfaa.ArcR
