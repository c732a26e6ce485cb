/- Points, walked: grid's, the document's. -/
import Derived.Test.YtpkcabpnehbmhaaGridLaws
import Derived.Test.YtpkcabpnehbmhaaPPtsx2
import Derived.Test.YtpkcabpnehbmhaaWNEv
namespace Go.Proofs.Ytpkcabpnehbmhaa.GW
open Go Go.RowKit Go.Proofs.Ytpkcabpnehbmhaa.Mem Go.Proofs.Ytpkcabpnehbmhaa.FM Go.Proofs.Ytpkcabpnehbmhaa.PPts Go.Proofs.YtpkcabpnehbmhaaW.PrintWords Go.Proofs.YtpkcabpnehbmhaaW.PrintLast
set_option linter.unusedVariables false
set_option linter.unusedSimpArgs false

/-- A row of floating numbers. -/
def kf : Kd Nat := Kd.scalar (Value.float .f64) (fun _ => rfl)
theorem kf_mkM (w : World) (base : Nat) (ok : Nat → Prop) (x : Nat) : kf.M w base ok x [.float .f64 x] := rfl
theorem info23 : (Try.prog.info? 23).map (fun i => (i.zero, i.size, i.bytes)) = some (some (.float .f64 0), 1, 8) := by kernel_rfl
theorem info68 : (Try.prog.info? 68).map (fun i => (i.zero, i.size, i.bytes)) = some (some (.agg #[.int .i64 0, .int .i64 0, .int .i64 0]), 3, 24) := by kernel_rfl
theorem at_f {w : World} {A : Option Addr} {n : Nat} {xs : List Nat} (h : Kd.C kf w A n xs) (i : Nat) (h1 : i < n) : ∃ ad, A = some ad ∧ w.cell? (ad.add i) = some (.float .f64 (xs.getD i 0)) := by
  obtain ⟨ad, c, e, _, hK, hc⟩ := Kd.C_get h 0 (i : Int) (by omega) (by omega)
  have hK' : c = [.float .f64 (xs.getD i 0)] := hK
  subst hK'
  have := hc 0 _ rfl
  rw [show kf.sz = 1 from rfl, Nat.mul_one, Nat.add_zero, Int.toNat_natCast] at this
  exact ⟨ad, e, this⟩

def ptsB (up : Int) : List Nat → List S68 → List S68 × Int
  | a :: b :: r, out => if (scaledB a up).2 = 0 then (if (scaledB b up).2 = 0 then ptsB up r (out ++ [⟨(scaledB a up).1, (scaledB b up).1, 0⟩]) else ([], (scaledB b up).2)) else ([], (scaledB a up).2)
  | [], out => (out, 0)
  | [_], out => (out, 0)
def pointsB (up : Int) (l : List Nat) : List S68 × Int := if up < 0 ∨ 30 < up ∨ l.length % 2 = 1 then ([], 2) else ptsB up l []

theorem getD_at {l : List Nat} {i : Nat} (h : i < l.length) : l.getD i 0 = l[i] := by rw [List.getD_eq_getElem?_getD, List.getElem?_eq_getElem h]; rfl
theorem drop_two {l : List Nat} {i : Nat} (h : i + 1 < l.length) : l.drop i = l.getD i 0 :: l.getD (i + 1) 0 :: l.drop (i + 2) := by
  rw [List.drop_eq_getElem_cons (by omega), List.drop_eq_getElem_cons (by omega), getD_at (by omega), getD_at (by omega)]
theorem word_in {l : List Nat} (h : ∀ x ∈ l, x < 2 ^ 64) (i : Nat) (hi : i < l.length) : l.getD i 0 < 2 ^ 64 := by
  rw [getD_at hi]; exact h _ (List.getElem_mem hi)

set_option maxRecDepth 100000 in
theorem Points29 (up : Int) (A : Option Addr) (l : List Nat) (c : Nat) (w : World) (hr : Kd.C kf w A l.length l) (hc : l.length ≤ c) (hw : ∀ x ∈ l, x < 2 ^ 64) (hn : l.length ≤ 60) :
    Calls Try.prog 29 #[.int .i64 up, .slice A l.length c] w fun e w' => ∃ v, e = .returned (.tuple #[v, .int .i64 (pointsB up l).2]) ∧ Kd.R k68 68 w' w.heap.size (fun _ => True) v (pointsB up l).1 ∧ Below w.heap.size w w' := by
  obtain ⟨D, hD⟩ : ∃ D, D = pointsB up l := ⟨_, rfl⟩
  rw [← hD]
  unfold pointsB at hD
  have HR := Lib.hid hr
  have HW := Lib.hid hw
  clear hr hw
  replace hD := Lib.hid hD
  go_enter Try.func29, Try.ntmps29
  by_cases h1 : up < 0
  · have t1 : decide (up < 0) = true := decide_eq_true h1
    go_wp2
    go_ret2
    rw [hD.out, if_pos (.inl h1)]
    exact ⟨_, rfl, Kd.R_nil _ _ _ _ _, Below.refl _ _⟩
  have t1 : decide (up < 0) = false := decide_eq_false h1
  by_cases h2 : 30 < up
  · have t2 : decide (30 < up) = true := decide_eq_true h2
    go_wp2
    go_ret2
    rw [hD.out, if_pos (.inr (.inl h2))]
    exact ⟨_, rfl, Kd.R_nil _ _ _ _ _, Below.refl _ _⟩
  have t2 : decide (30 < up) = false := decide_eq_false h2
  by_cases h3 : l.length % 2 = 1
  · have t3 : ((l.length : Int) % 2 != 0) = true := bne_iff_ne.2 (by omega)
    go_wp2
    go_ret2
    rw [hD.out, if_pos (.inr (.inr h3))]
    exact ⟨_, rfl, Kd.R_nil _ _ _ _ _, Below.refl _ _⟩
  have t3 : ((l.length : Int) % 2 != 0) = false := bne_eq_false_iff_eq.2 (by omega)
  have hD2 := hD.out
  rw [if_neg (by omega)] at hD2
  clear hD
  replace hD2 := Lib.hid hD2
  go_wp2_with fail
  go_loopw [6, 7] (fun vo vi wr => ∃ (o : List S68) (i : Nat), vi = .int .i64 i ∧ i ≤ l.length ∧ i = 2 * o.length ∧ Kd.R k68 68 wr w.heap.size (fun _ => True) vo o ∧ Below w.heap.size w wr ∧ ptsB up (l.drop i) o = D) (fun _ vi _ => l.length - (intOf vi).toNat)
  case atStart => exact ⟨[], 0, rfl, Nat.zero_le _, rfl, Kd.R_nil _ _ _ _ _, Below.refl _ _, hD2.out.symm⟩
  case round =>
    obtain ⟨o, i, rfl, hi, hio, hR, hB, hE⟩ := hrel
    replace hE := Lib.hid hE
    obtain ⟨Ao, co, rfl⟩ := Kd.R_slice hR
    by_cases hlt : i < l.length
    · have d1 : decide ((i : Int) < (l.length : Int)) = true := decide_eq_true (by omega)
      have hlt2 : i + 1 < l.length := by omega
      have hol : o.length ≤ 60 := by omega
      replace hio := Lib.hid hio
      have hE2 := hE.out
      rw [drop_two hlt2, ptsB] at hE2
      have hC := Kd.C_below HR.out hB
      obtain ⟨ad, hA, c1⟩ := at_f hC i hlt
      obtain ⟨ad', hA', c2⟩ := at_f hC (i + 1) hlt2
      rw [hA] at hA'
      cases hA'
      rw [Addr.add_succ'] at c2
      have w1 := word_in HW.out i hlt
      have w2 := word_in HW.out (i + 1) hlt2
      generalize l.getD i 0 = x at *
      generalize l.getD (i + 1) 0 = y at *
      subst hA
      replace hE2 := Lib.hid hE2
      go_wp2_with fail
      refine (Scaled14 x w1 up _).mono ?_
      rintro e wz ⟨rfl, hwz⟩
      subst hwz
      by_cases g1 : (scaledB x up).2 = 0
      · rw [g1]
        have hE3 := hE2.out
        rw [if_pos g1] at hE3
        replace hE3 := Lib.hid hE3
        clear hE2
        go_wp2_with fail
        refine (Scaled14 y w2 up _).mono ?_
        rintro e wz ⟨rfl, hwz⟩
        subst hwz
        by_cases g2 : (scaledB y up).2 = 0
        · rw [g2]
          have hE4 := hE3.out
          rw [if_pos g2] at hE4
          generalize (scaledB x up).1 = p at *
          generalize (scaledB y up).1 = q at *
          replace hE4 := Lib.hid hE4
          clear hE3 hE g1 g2
          go_wp2_with (first | ((with_reducible refine gate_builtin (b := .append) (xs := #[.tmp 55, .tmp 59]) rfl ?_); at_builtin; refine Kd.R_append k68 (w0 := w) w.heap.size rfl (.tmp 55) (.tmp 59) 52 68 (.agg #[.int .i64 0, .int .i64 0, .int .i64 0]) 24 rfl Try.underlying52 info68 rfl (by decide) (by omega) (.slice Ao o.length co) o ⟨p, q, 0⟩ [.int .i64 p, .int .i64 q, .int .i64 0] (fun _ => True) (fun _ => False) rfl ?aX ?aP (fun _ hk => hk.elim) ?aF ?aO ?aB ?aS ?aL ?_; (case aX => rfl); (case aP => exact k68_mkM _ _ _ ⟨p, q, 0⟩); (case aF => exact fun _ _ => trivial); (case aO => exact hR); (case aB => exact hB); (case aS => exact hB.size); (case aL => omega); intro va7 w7 hR7 hb7 hgr7 hat7; clear hR hB hgr7 hat7))
          go_roundw
          case rel => exact ⟨o ++ [⟨p, q, 0⟩], i + 2, by go_num, by omega, by have := hio.out; simp; omega, hR7, hb7, hE4.out⟩
          case measure => simp [intOf]; omega
        · have hE4 := hE3.out
          rw [if_neg g2] at hE4
          have j2 : ((scaledB y up).2 != (0 : Int)) = true := bne_iff_ne.2 g2
          generalize (scaledB y up).2 = q at *
          go_wp2
          go_ret2
          subst hE4
          exact ⟨_, rfl, Kd.R_nil _ _ _ _ _, hB⟩
      · have hE4 := hE2.out
        rw [if_neg g1] at hE4
        have j2 : ((scaledB x up).2 != (0 : Int)) = true := bne_iff_ne.2 g1
        generalize (scaledB x up).2 = q at *
        go_wp2
        go_ret2
        subst hE4
        exact ⟨_, rfl, Kd.R_nil _ _ _ _ _, hB⟩
    · have d1 : decide ((i : Int) < (l.length : Int)) = false := decide_eq_false (by omega)
      have he : l.drop i = [] := List.drop_eq_nil_of_le (by omega)
      have hE2 := hE.out
      rw [he, ptsB] at hE2
      go_wp2
      go_ret2
      subst hE2
      exact ⟨_, rfl, hR, hB⟩
end Go.Proofs.Ytpkcabpnehbmhaa.GW
