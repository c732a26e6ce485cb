import Derived.Test.YtckemiefcdpofaaDoorCompactP
import Derived.Test.YtckemiefcdpofaaDoorPMsrx1
import Derived.BigQuiet
namespace Go.Proofs.YtckemiefcdpofaaDoor.ED
open Go Go.RowKit Go.Lib Go.Sort Go.Proofs.YtckemiefcdpofaaDoor.OR Go.Proofs.YtckemiefcdpofaaDoor.Mem Go.Proofs.YtckemiefcdpofaaDoor.PMsr Go.Proofs.YtckemiefcdpofaaDoorW.PrintWords Go.Proofs.YtckemiefcdpofaaDoorW.PrintLast Go.Proofs.YtckemiefcdpofaaDoorW.PrintMore
set_option linter.unusedVariables false
set_option linter.unnecessarySimpa false
set_option linter.unusedSimpArgs false
set_option maxRecDepth 100000
theorem eqA52 (d : Nat) (w : World) (x0 y0 : Int) (x1 y1 : Int) :
    (Op.equalIn (d + 2) 52 (.agg #[.int .i64 x0, .int .i64 x1]) (.agg #[.int .i64 y0, .int .i64 y1])).run Tryd.prog w = .ok (x0 == y0 && (x1 == y1)) w := by
  refine eqR_of Tryd.underlying52 (i := _) rfl ?_
  rw [show Tryd.prog.cellsOf 3 = 1 by kernel_rfl, show List.range 2 = [0, 1] from rfl]
  refine eqi_cons (by go_simp; rfl) (by go_simp; rfl) (by go_simp) ?_
  exact eqi_last (by go_simp; rfl) (by go_simp; rfl) (by go_simp)
attribute [local go_sem high] eqA52
theorem eq2 (p q : Int × Int) : (p.1 == q.1 && (p.2 == q.2)) = true ↔ p = q := by
  obtain ⟨a, b⟩ := p
  obtain ⟨c, d⟩ := q
  simp
structure Inv (l : List (Int × Int)) (K j kk : Nat) (m : List (Int × Int)) : Prop where
  len : m.length = l.length
  kk_ : kk = (comp l (K + j)).length
  lt : kk + 1 ≤ K + j
  take : m.take kk = comp l (K + j)
  rest : ∀ i, K + j - 1 ≤ i → i < l.length → m.getD i (0, 0) = l.getD i (0, 0)
theorem inv_start {l : List (Int × Int)} {K : Nat} (h1 : 1 ≤ K) (hK : K < l.length) (hd : ∀ j, 0 < j → j < K → l.getD j (0, 0) ≠ l.getD (j - 1) (0, 0)) (he : l.getD K (0, 0) = l.getD (K - 1) (0, 0)) : Inv l K 1 K l := by
  have hc : comp l (K + 1) = l.take K := by
    unfold comp
    rw [if_neg (fun h => h.elim (by omega) (fun h => h he)), List.append_nil, comp_same K (by omega) hd]
  exact ⟨rfl, by rw [hc, List.length_take]; omega, by omega, hc.symm, fun _ _ _ => rfl⟩
theorem inv_same {l m : List (Int × Int)} {K j kk : Nat} (h : Inv l K j kk m) (hj : 1 ≤ j) (he : l.getD (K + j) (0, 0) = l.getD (K + j - 1) (0, 0)) : Inv l K (j + 1) kk m := by
  have hc : comp l (K + (j + 1)) = comp l (K + j) := by
    show comp l ((K + j) + 1) = _
    conv => lhs; unfold comp
    rw [if_neg (fun h => h.elim (by omega) (fun h => h he)), List.append_nil]
  exact ⟨h.len, by rw [hc]; exact h.kk_, by have := h.lt; omega, by rw [hc]; exact h.take, fun i h1 h2 => h.rest i (by omega) h2⟩
theorem inv_new {l m : List (Int × Int)} {K j kk : Nat} (h : Inv l K j kk m) (hj : 1 ≤ j) (hlt : K + j < l.length) (he : l.getD (K + j) (0, 0) ≠ l.getD (K + j - 1) (0, 0)) : Inv l K (j + 1) (kk + 1) (m.set kk (l.getD (K + j) (0, 0))) := by
  have hc : comp l (K + (j + 1)) = comp l (K + j) ++ [l.getD (K + j) (0, 0)] := by
    show comp l ((K + j) + 1) = _
    conv => lhs; unfold comp
    rw [if_pos (.inr he)]
  have hk := h.lt
  have hl := h.len
  refine ⟨by rw [List.length_set]; exact hl, by rw [hc, List.length_append, ← h.kk_]; rfl, by omega, ?_, fun i h1 h2 => ?_⟩
  · rw [hc, ← h.take, List.take_succ_eq_append_getElem (by rw [List.length_set]; omega), List.getElem_set_self, List.take_set_of_le (Nat.le_refl _)]
  · rw [← h.rest i (by omega) h2]
    rw [List.getD_eq_getElem?_getD, List.getElem?_set_ne (by omega), List.getD_eq_getElem?_getD]
set_option maxHeartbeats 4000000 in
theorem compact37 (w : World) (g cap base : Nat) (l : List (Int × Int)) (h : RowE w g l cap) (hl : l.length ≤ 1000000) (hg : base ≤ g) :
    Calls Tryd.prog 37 #[.slice (some ⟨g, 0, none⟩) l.length cap] w fun e w' => e = .returned (.slice (some ⟨g, 0, none⟩) (comp l l.length).length cap) ∧ RowE w' g (comp l l.length) cap ∧ RowKit.Below base w w' := by
  have hH := Lib.hid h
  clear h
  go_enter Tryd.func37, Tryd.ntmps37
  by_cases h2 : l.length < 2
  · have d2 : decide ((l.length : Int) < 2) = true := decide_eq_true (by omega)
    have hc := Lib.hid (show comp l l.length = l by rw [comp_same l.length (Nat.le_refl _) fun j h1 h3 => by omega, List.take_length])
    go_wp2_with fail
    go_ret
    rw [hc.out]
    exact ⟨rfl, hH.out, Below.refl _ _⟩
  have d2 : decide ((l.length : Int) < 2) = false := decide_eq_false (by omega)
  go_wp2_with fail
  go_loopw [3] (fun v wr => ∃ k : Int, v = .int .i64 k ∧ 1 ≤ k ∧ k ≤ l.length ∧ Aside0 (RowE wr g l cap) ∧ RowKit.Below base w wr ∧ Aside0 (∀ j, 0 < j → j < k.toNat → l.getD j (0, 0) ≠ l.getD (j - 1) (0, 0))) (fun v _ => l.length - (intOf v).toNat)
  case atStart => exact ⟨1, rfl, by omega, by omega, ⟨hH.out⟩, Below.refl _ _, ⟨fun j h1 h3 => by simp at h3; omega⟩⟩
  case round =>
    obtain ⟨k, rfl, hk1, hk2, hrow, hb, hdis⟩ := hrel
    by_cases hlt : k < l.length
    · have dl : decide (k < (l.length : Int)) = true := decide_eq_true hlt
      obtain ⟨k', hk'⟩ : ∃ k', k' = k - 1 := ⟨_, rfl⟩
      have m0 : wrap64 (k - 1) = k' := by unfold wrap64; omega
      have m1 : IntKind.i64.wrap (k - 1) = k' := (i64_w _).trans m0
      have p1 := eq_true (show 0 ≤ k by omega)
      have p2 := eq_true hlt
      have p3 := eq_true (show 0 ≤ k' by omega)
      have p4 := eq_true (show k' < (l.length : Int) by omega)
      obtain ⟨x0, x1, _⟩ := rowE_cell hrow.out k.toNat (by omega)
      obtain ⟨y0, y1, _⟩ := rowE_cell hrow.out k'.toNat (by omega)
      have hx := Lib.hid (show l.getD k.toNat (0, 0) = l.getD k.toNat (0, 0) from rfl)
      generalize hp : l.getD k.toNat (0, 0) = p at x0 x1
      generalize hq : l.getD k'.toNat (0, 0) = q at y0 y1
      replace hp := Lib.hid hp
      replace hq := Lib.hid hq
      replace hk' := Lib.hid hk'
      clear hx
      by_cases he : (p.1 == q.1 && (p.2 == q.2)) = true
      · go_wp2_with fail
        go_quiet (fail)
        have hb2 := pw_below_drewN hb nq
        have hrow2 : RowE (wr.drewN nq) g l cap := hrow.out
        generalize wr.drewN nq = w2 at *
        have hpq : p = q := (eq2 p q).1 he
        obtain ⟨cur, _, _, hlc, _, _⟩ := id hrow2
        have hlc2 : (l.length : Int) ≤ cap := by omega
        clear he x0 x1 y0 y1
        replace hpq := Lib.hid hpq
        replace hrow2 := Lib.hid hrow2
        obtain ⟨K, rfl⟩ : ∃ K : Nat, k = K := ⟨k.toNat, by omega⟩
        have hinv := Lib.hid (inv_start (l := l) (K := K) (by omega) (by omega) (by simpa using hdis.out) (by
          have h1 := hp.out; have h2 := hq.out; have h3 := hpq.out; have h4 := hk'.out
          rw [show k'.toNat = K - 1 by omega] at h2
          rw [Int.toNat_natCast] at h1
          rw [h1, h2, h3]))
        have hrow3 := Lib.hid hrow2.out
        go_wp2_with fail
        clear m0 m1 p1 p2 p3 p4
        have hK1 : 1 ≤ K := by omega
        have hK2 : K < l.length := by omega
        go_loopw [5, 3] (fun v5 v3 w5 => ∃ (j kk : Nat) (m : List (Int × Int)), v5 = .int .i64 (j : Int) ∧ v3 = .int .i64 (kk : Int) ∧ 1 ≤ j ∧ K + j ≤ l.length ∧ Aside0 (RowE w5 g m cap) ∧ RowKit.Below base w w5 ∧ Aside0 (Inv l K j kk m)) (fun v5 _ _ => l.length - (intOf v5).toNat)
        case atStart => exact ⟨1, K, l, rfl, rfl, Nat.le_refl _, by omega, ⟨hrow3.out⟩, hb2, ⟨hinv.out⟩⟩
        case round =>
          obtain ⟨j, kk, m, rfl, rfl, hj1, hj2, hrm, hb3, hI⟩ := hrel
          have hkl := hI.out.lt
          by_cases hlt2 : j < l.length - K
          · have dl2 : decide ((j : Int) < ((l.length - K : Nat) : Int)) = true := decide_eq_true (by omega)
            obtain ⟨s0, s1, _⟩ := rowE_cell hrm.out (K + j) (by rw [hI.out.len]; omega)
            obtain ⟨r0, r1, _⟩ := rowE_cell hrm.out (K + j - 1) (by rw [hI.out.len]; omega)
            obtain ⟨j', hj'⟩ : ∃ j' : Nat, j' = j - 1 := ⟨_, rfl⟩
            rw [show (K + j) * 2 = K * 2 + j * 2 by omega] at s0 s1
            rw [show (K + j - 1) * 2 = K * 2 + j' * 2 by omega] at r0 r1
            have e1 := Lib.hid (hI.out.rest (K + j) (by omega) (by omega))
            have e2 := Lib.hid (hI.out.rest (K + j - 1) (by omega) (by omega))
            generalize hx : m.getD (K + j) (0, 0) = x at s0 s1 e1
            generalize hy : m.getD (K + j - 1) (0, 0) = y at r0 r1 e2
            have m1 : IntKind.i64.wrap ((j : Int) - 1) = (j' : Int) := (i64_w _).trans (by unfold wrap64; omega)
            have p1 := eq_true (show (j : Int) < ((l.length - K : Nat) : Int) by omega)
            have p2 := eq_true (show (j' : Int) < ((l.length - K : Nat) : Int) by omega)
            replace hj' := Lib.hid hj'
            replace hx := Lib.hid hx
            replace hy := Lib.hid hy
            by_cases hxy : (x.1 == y.1 && (x.2 == y.2)) = true
            · go_wp2_with fail
              go_quiet (fail)
              have hb4 := pw_below_drewN hb3 nq
              have hrm4 : RowE (wr.drewN nq) g m cap := hrm.out
              have hpe := Lib.hid ((eq2 x y).1 hxy)
              clear hxy s0 s1 r0 r1
              generalize wr.drewN nq = w6 at *
              replace hrm4 := Lib.hid hrm4
              go_wp2_with fail
              go_roundw
              case rel => exact ⟨j + 1, kk, m, rfl, rfl, by omega, by omega, ⟨hrm4.out⟩, hb4, ⟨inv_same hI.out hj1 (by rw [← e1.out, ← e2.out]; exact hpe.out)⟩⟩
              case measure => simp [intOf]; omega
            · have hxy' : (x.1 == y.1 && (x.2 == y.2)) = false := by simpa using hxy
              have hne := Lib.hid (show x ≠ y from fun h => hxy ((eq2 x y).2 h))
              clear hxy
              go_wp2_with fail
              go_quiet (fail)
              have hb4 := pw_below_drewN hb3 nq
              have hrm4 : RowE (wr.drewN nq) g m cap := hrm.out
              clear s0 s1 r0 r1
              generalize wr.drewN nq = w6 at *
              obtain ⟨s0, s1, fz⟩ := rowE_cell hrm4 (K + j) (by rw [hI.out.len]; omega)
              rw [show (K + j) * 2 = K * 2 + j * 2 by omega] at s0 s1
              rw [hx.out] at s0 s1
              have hkm : kk < m.length := by rw [hI.out.len]; omega
              have p3 := eq_true (show (kk : Int) < (l.length : Int) by omega)
              have f0 := fz (kk * 2)
              obtain ⟨cr, hBr, _⟩ := rowE_blk hrm4
              have f1 := (hBr.set_ (kk * 2) (.int .i64 x.1)).frozen (kk * 2 + 1)
              obtain ⟨t0, t1, _⟩ := rowE_cell hrm4 kk hkm
              have hrm5 := Lib.hid (rowE_set hrm4 kk hkm x)
              have hb5 := (hb4.setCell (p := ⟨g, kk * 2, none⟩) hg (.int .i64 x.1)).setCell (p := ⟨g, kk * 2 + 1, none⟩) hg (.int .i64 x.2)
              have hin := Lib.hid (inv_new hI.out hj1 (by omega) (by rw [← e1.out, ← e2.out]; exact hne.out))
              replace hrm4 := Lib.hid hrm4
              replace hBr := Lib.hid hBr
              replace hkm := Lib.hid hkm
              clear fz
              go_wp2_with fail
              go_roundw
              case rel => exact ⟨j + 1, kk + 1, m.set kk x, rfl, rfl, by omega, by omega, ⟨hrm5.out⟩, hb5, ⟨by have := hin.out; rw [← e1.out] at this; exact this⟩⟩
              case measure => simp [intOf]; omega
          · have dl2 : decide ((j : Int) < ((l.length - K : Nat) : Int)) = false := decide_eq_false (by omega)
            obtain rfl : j = l.length - K := by omega
            have hI' := hI.out
            have hcl0 : comp l (K + (l.length - K)) = comp l l.length := by rw [show K + (l.length - K) = l.length by omega]
            have hkk := hI'.kk_
            rw [hcl0] at hkk
            have htk := hI'.take
            rw [hcl0] at htk
            obtain ⟨cr, hBr, hcs⟩ := rowE_blk hrm.out
            have hcell : ∀ i, i < (l.length - kk) * 2 → (wr.cell? ⟨g, kk * 2 + i, none⟩).isSome = true := fun i hi => by
              rw [hBr.cell, Array.getElem?_eq_getElem (by rw [hcs]; omega)]
              rfl
            have hclr := run_clear2 wr 31 52 0 Tryd.underlying31 (fun w => by kernel_rfl) g (kk * 2) (l.length - kk) (cap - kk) (by omega) hcell (fun i _ => hBr.frozen _)
            have hrowF := rowE_clear (rowE_cut hrm.out kk (by rw [hI'.len]; omega)) (List.replicate ((l.length - kk) * 2) (.int .i64 0)) (kk * 2) (by rw [List.length_take]; omega)
            have hbF := below_clear hb3 hg (List.replicate ((l.length - kk) * 2) (.int .i64 0)) (kk * 2)
            generalize wr.setCells g (kk * 2) (List.replicate ((l.length - kk) * 2) (.int .i64 0)) = W at *
            rw [htk] at hrowF
            have hkl2 : kk ≤ l.length := by omega
            replace hrowF := Lib.hid hrowF
            replace hkk := Lib.hid hkk
            replace htk := Lib.hid htk
            replace hcl0 := Lib.hid hcl0
            replace hI' := Lib.hid hI'
            replace hBr := Lib.hid hBr
            replace hcs := Lib.hid hcs
            clear hcell
            have q1 := eq_true (show (kk : Int) ≤ (l.length : Int) by omega)
            have q2 := eq_true (show (kk : Int) ≤ (cap : Int) by omega)
            go_wp2_with fail
            go_ret
            refine ⟨?_, hrowF.out, hbF⟩
            rw [← hkk.out]
            rfl
      · have he' : (p.1 == q.1 && (p.2 == q.2)) = false := by simpa using he
        clear he
        go_wp2_with fail
        go_quiet (fail)
        have hb2 := pw_below_drewN hb nq
        have hrow2 : Aside0 (RowE (wr.drewN nq) g l cap) := ⟨hrow.out⟩
        generalize wr.drewN nq = w2 at *
        go_wp2_with fail
        go_roundw
        case rel =>
          refine ⟨k + 1, rfl, by omega, by omega, hrow2, hb2, ⟨fun j h1 h3 => ?_⟩⟩
          by_cases hj : j < k.toNat
          · exact hdis.out j h1 hj
          · have hjk : j = k.toNat := by omega
            subst hjk
            rw [hp.out, show k.toNat - 1 = k'.toNat by have := hk'.out; omega, hq.out]
            intro hpq
            rw [(eq2 p q).2 hpq] at he'
            cases he'
        case measure => simp [intOf]; omega
    · obtain rfl : k = l.length := by omega
      have hc := Lib.hid (show comp l l.length = l by rw [comp_same l.length (Nat.le_refl _) fun j h1 h3 => hdis.out j h1 (by simpa using h3), List.take_length])
      go_wp2_with fail
      go_ret
      rw [hc.out]
      exact ⟨rfl, hrow.out, hb⟩
theorem compact0 (w : World) (A : Option Addr) (c : Nat) : Calls Tryd.prog 37 #[.slice A 0 c] w fun e w' => e = .returned (.slice A 0 c) ∧ w' = w := by
  go_enter Tryd.func37, Tryd.ntmps37
  go_wp2_with fail
  go_ret
  exact ⟨rfl, rfl⟩
end Go.Proofs.YtckemiefcdpofaaDoor.ED
