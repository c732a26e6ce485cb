/- Points, walked: grid's own. -/
import Derived.Test.YtpkcabpnehbmhaaGridPts
namespace Go.Proofs.Ytpkcabpnehbmhaa.GW
open Go Go.RowKit Go.Proofs.Ytpkcabpnehbmhaa.Mem Go.Proofs.Ytpkcabpnehbmhaa.FM Go.Proofs.Ytpkcabpnehbmhaa.PPts Go.Proofs.YtpkcabpnehbmhaaW.PrintWords Go.Proofs.YtpkcabpnehbmhaaW.PrintLast
set_option linter.unusedVariables false
set_option linter.unusedSimpArgs false

/-- Half way: the first of two numbers is in. -/
def halfB (up : Int) (b : Nat) (r : List Nat) (o : List S68) (x : Int) : List S68 × Int :=
  if (scaledB b up).2 = 0 then ptsB up r (o ++ [⟨x, (scaledB b up).1, 0⟩]) else ([], (scaledB b up).2)

set_option maxRecDepth 100000 in
theorem Points28 (up : Int) (A : Option Addr) (l : List Nat) (c : Nat) (w : World) (hr : Kd.C kf w A l.length l) (hc : l.length ≤ c) (hw : ∀ x ∈ l, x < 2 ^ 64) (hn : l.length ≤ 60) :
    Calls Try.prog 28 #[.int .i64 up, .slice A l.length c] w fun e w' => ∃ v, e = .returned (.tuple #[v, .int .i64 (pointsB up l).2]) ∧ Kd.R k68 68 w' w.heap.size (fun _ => True) v (pointsB up l).1 ∧ Below w.heap.size w w' := by
  obtain ⟨D, hD⟩ : ∃ D, D = pointsB up l := ⟨_, rfl⟩
  rw [← hD]
  unfold pointsB at hD
  have HR := Lib.hid hr
  have HW := Lib.hid hw
  clear hr hw
  replace hD := Lib.hid hD
  go_enter Try.func28, Try.ntmps28
  go_wp2
  apply scope_body
  by_cases h1 : up < 0
  · have t1 : decide (up < 0) = true := decide_eq_true h1
    go_wp2
    go_ret2
    rw [hD.out, if_pos (.inl h1)]
    exact ⟨_, rfl, Kd.R_nil _ _ _ _ _, Below.refl _ _⟩
  have t1 : decide (up < 0) = false := decide_eq_false h1
  by_cases h2 : 30 < up
  · have t2 : decide (30 < up) = true := decide_eq_true h2
    go_wp2
    go_ret2
    rw [hD.out, if_pos (.inr (.inl h2))]
    exact ⟨_, rfl, Kd.R_nil _ _ _ _ _, Below.refl _ _⟩
  have t2 : decide (30 < up) = false := decide_eq_false h2
  by_cases h3 : l.length % 2 = 1
  · have t3 : ((l.length : Int) % 2 != 0) = true := bne_iff_ne.2 (by omega)
    go_wp2
    go_ret2
    rw [hD.out, if_pos (.inr (.inr h3))]
    exact ⟨_, rfl, Kd.R_nil _ _ _ _ _, Below.refl _ _⟩
  have t3 : ((l.length : Int) % 2 != 0) = false := bne_eq_false_iff_eq.2 (by omega)
  have hD2 := hD.out
  rw [if_neg (by omega)] at hD2
  clear hD
  replace hD2 := Lib.hid hD2
  go_wp2_with fail
  go_step3
  go_wp2_with fail
  go_loopw [6, 7, 26] (fun vo vb vi wr => ∃ (o : List S68) (i : Nat), vi = .int .i64 i ∧ vb = .int .i64 0 ∧ i ≤ l.length ∧ Kd.R k68 68 wr w.heap.size (fun _ => True) vo o ∧ Below w.heap.size w wr ∧ ((i = 2 * o.length ∧ ptsB up (l.drop i) o = D) ∨ ∃ (o' : List S68) (x : Int), o = o' ++ [⟨x, 0, 0⟩] ∧ i = 2 * o'.length + 1 ∧ i < l.length ∧ halfB up (l.getD i 0) (l.drop (i + 1)) o' x = D)) (fun _ _ vi _ => l.length - (intOf vi).toNat)
  case atStart => exact ⟨[], 0, rfl, rfl, Nat.zero_le _, Kd.R_nil _ _ _ _ _, Below.refl _ _, .inl ⟨rfl, hD2.out.symm⟩⟩
  case round =>
    obtain ⟨o, i, rfl, rfl, hi, hR, hB, hE⟩ := hrel
    replace hE := Lib.hid hE
    obtain ⟨Ao, co, rfl⟩ := Kd.R_slice hR
    by_cases hlt : i < l.length
    · have d1 : decide ((i : Int) < (l.length : Int)) = true := decide_eq_true (by omega)
      have hC := Kd.C_below HR.out hB
      obtain ⟨ad, hA, c1⟩ := at_f hC i hlt
      have w1 := word_in HW.out i hlt
      have hE1 := hE.out
      replace hE1 := Lib.hid hE1
      clear hE
      generalize hx : l.getD i 0 = x at *
      replace hx := Lib.hid hx
      subst hA
      go_wp2_with fail
      refine (Scaled13 x w1 up _).mono ?_
      rintro e wz ⟨rfl, hwz⟩
      subst hwz
      rcases hE1.out with ⟨hio, hE⟩ | ⟨o', z, rfl, hio, hil, hE⟩
      · have hlt2 : i + 1 < l.length := by omega
        rw [drop_two hlt2, ptsB, hx.out] at hE
        have hol : o.length ≤ 60 := by omega
        have e2 : ((i : Int) % 2 == 0) = true := beq_iff_eq.2 (by omega)
        by_cases g1 : (scaledB x up).2 = 0
        · rw [g1]
          rw [if_pos g1] at hE
          generalize (scaledB x up).1 = p at *
          replace hE := Lib.hid hE
          replace hio := Lib.hid hio
          replace hE1 := Lib.hid hE1
          clear hE1 g1
          go_wp2_with (first | ((with_reducible refine gate_builtin (b := .append) (xs := #[.tmp 51, .tmp 54]) rfl ?_); at_builtin; refine Kd.R_append k68 (w0 := w) w.heap.size rfl (.tmp 51) (.tmp 54) 52 68 (.agg #[.int .i64 0, .int .i64 0, .int .i64 0]) 24 rfl Try.underlying52 info68 rfl (by decide) (by omega) (.slice Ao o.length co) o ⟨p, 0, 0⟩ [.int .i64 p, .int .i64 0, .int .i64 0] (fun _ => True) (fun _ => False) rfl ?aX ?aP (fun _ hk => hk.elim) ?aF ?aO ?aB ?aS ?aL ?_; (case aX => rfl); (case aP => exact k68_mkM _ _ _ ⟨p, 0, 0⟩); (case aF => exact fun _ _ => trivial); (case aO => exact hR); (case aB => exact hB); (case aS => exact hB.size); (case aL => omega); intro va7 w7 hR7 hb7 hgr7 hat7; clear hR hB hgr7 hat7))
          go_roundw
          case rel => exact ⟨o ++ [⟨p, 0, 0⟩], i + 1, by go_num, rfl, by omega, hR7, hb7, .inr ⟨o, p, rfl, by have := hio.out; omega, hlt2, hE.out⟩⟩
          case measure => simp [intOf]; omega
        · rw [if_neg g1] at hE
          have j2 : ((scaledB x up).2 != (0 : Int)) = true := bne_iff_ne.2 g1
          generalize (scaledB x up).2 = q at *
          replace hio := Lib.hid hio
          clear hE1
          go_wp2
          go_ret2
          subst hE
          exact ⟨_, rfl, Kd.R_nil _ _ _ _ _, hB⟩
      · have e2 : ((i : Int) % 2 == 0) = false := beq_eq_false_iff_ne.2 (by omega)
        have e5 : (i : Int) / 2 = (o'.length : Int) := by omega
        unfold halfB at hE
        try rw [hx.out] at hE
        have hol : o'.length ≤ 60 := by omega
        by_cases g1 : (scaledB x up).2 = 0
        · rw [g1]
          rw [if_pos g1] at hE
          generalize (scaledB x up).1 = p at *
          replace hE := Lib.hid hE
          replace hio := Lib.hid hio
          clear hE1 g1
          obtain ⟨g, cap, hv, hbg, hgl, cls, hblk⟩ := Kd.R_form hR (by simp)
          injection hv with hv1 hv2 hv3
          subst hv1 hv3
          have hcells : ∀ j u, ([.int .i64 z, .int .i64 0, .int .i64 0] : List Value)[j]? = some u → wz.cell? ⟨g, (o'.length : Int).toNat * k68.sz + j, none⟩ = some u := by
            obtain ⟨A2, c2, hv, _, hC2⟩ := Kd.R_reads hR
            injection hv with hv1 _ _
            subst hv1
            obtain ⟨ad2, cc, he, _, hK, hc2⟩ := Kd.C_get hC2 z68 (o'.length : Int) (by omega) (by simp; omega)
            cases he
            have hx2 : (o' ++ [(⟨z, 0, 0⟩ : S68)]).getD o'.length z68 = ⟨z, 0, 0⟩ := by simp
            rw [Int.toNat_natCast, hx2] at hK
            obtain rfl := k68_open hK
            intro j u hj
            have := hc2 j u hj
            rw [Addr.add_lit, Nat.zero_add] at this
            exact this
          have b1 : (o'.length : Int) < ((o' ++ [(⟨z, 0, 0⟩ : S68)]).length : Nat) := by simp; omega
          have hset : (o' ++ [(⟨z, 0, 0⟩ : S68)]).set (o'.length : Int).toNat ⟨z, p, 0⟩ = o' ++ [⟨z, p, 0⟩] := by simp
          have hfz : wz.frozen? ⟨g, o'.length * 3 + 1, none⟩ = false := Blk.frozen (t := 68) (cs := cls) hblk _
          have hcl1 : wz.cell? ⟨g, o'.length * 3 + 1, none⟩ = some (.int .i64 0) := hcells 1 _ rfl
          have hseg := Kd.R_seg (d := k68) (seg := [.int .i64 p]) (j := 1) (x' := ⟨z, p, 0⟩) (okp := fun _ => False) hR (o'.length : Int) (by omega) b1 rfl hcells (show 1 + 1 ≤ 3 by decide) (k68_mkM _ _ _ ⟨z, p, 0⟩) (fun _ hk => hk.elim)
          have hb8 : Below w.heap.size w (wz.setCell ⟨g, o'.length * 3 + 1, none⟩ (.int .i64 p)) := hB.setCell (p := ⟨g, o'.length * 3 + 1, none⟩) (by simp; omega) _
          have hR8 : Kd.R k68 68 (wz.setCell ⟨g, o'.length * 3 + 1, none⟩ (.int .i64 p)) w.heap.size (fun _ => True) (.slice (some ⟨g, 0, none⟩) (o' ++ [(⟨z, 0, 0⟩ : S68)]).length co) (o' ++ [⟨z, p, 0⟩]) := by
            have := hseg.1
            rw [hset] at this
            exact this
          clear hseg hcells hR hB hblk
          go_wp2_with fail
          go_roundw
          case rel => exact ⟨o' ++ [⟨z, p, 0⟩], i + 1, by go_num, rfl, by omega, by simpa using hR8, hb8, .inl ⟨by have := hio.out; simp; omega, hE.out⟩⟩
          case measure => simp [intOf]; omega
        · rw [if_neg g1] at hE
          have j2 : ((scaledB x up).2 != (0 : Int)) = true := bne_iff_ne.2 g1
          generalize (scaledB x up).2 = q at *
          replace hio := Lib.hid hio
          clear hE1
          go_wp2
          go_ret2
          subst hE
          exact ⟨_, rfl, Kd.R_nil _ _ _ _ _, hB⟩
    · have d1 : decide ((i : Int) < (l.length : Int)) = false := decide_eq_false (by omega)
      have he : l.drop i = [] := List.drop_eq_nil_of_le (by omega)
      rcases hE.out with ⟨hio, hE2⟩ | ⟨o', z, rfl, hio, hil, hE2⟩
      · rw [he, ptsB] at hE2
        clear hE
        replace hio := Lib.hid hio
        go_wp2
        go_ret2
        subst hE2
        exact ⟨_, rfl, hR, hB⟩
      · exact absurd hil hlt
end Go.Proofs.Ytpkcabpnehbmhaa.GW
