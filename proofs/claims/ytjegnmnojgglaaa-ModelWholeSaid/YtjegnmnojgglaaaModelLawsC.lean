/- The walks of the statements ModelCounts and ModelWhole. -/
import Derived.Test.YtjegnmnojgglaaaModelLawsA
namespace Go.Proofs.Ytjegnmnojgglaaa.MW
open Go Go.RowKit Go.Proofs.Ytjegnmnojgglaaa.PMod Go.Proofs.YtjegnmnojgglaaaW.PrintWords Go.Proofs.YtjegnmnojgglaaaW.PrintLast Go.Proofs.YtjegnmnojgglaaaW.PrintMore
set_option linter.unusedVariables false
set_option linter.unusedSimpArgs false

set_option maxHeartbeats 1000000 in
set_option maxRecDepth 100000 in
theorem counts_row (w : World) (n0 : Int) (h0 : (Lit.int .u8 n0).wf = true) (L : Option Addr) (l : List Int) (lc : Nat) (hm : l.length ≤ maxLen) (hb : l.length * 2 ≤ 140737488351232) (hr : RdU w .u16 L l) (hw : ∀ x ∈ l, (Lit.int .u16 x).wf = true) (hc : l.length ≤ lc) :
    Calls Try.prog 8 #[.int .u8 n0, .slice L l.length lc] w fun e w' => e = .returned (.bool true) ∧ Below w.heap.size w w' := by
  have h0 := wfu8 h0
  have hw : ∀ x ∈ l, 0 ≤ x ∧ x < 65536 := fun x hx => wfu16 (hw x hx)
  obtain ⟨m, rfl⟩ := Int.eq_ofNat_of_zero_le h0.1
  have hm1 : m < 256 := by omega
  clear h0 hm hc
  have HR := Lib.hid hr
  have HW := Lib.hid hw
  clear hr hw
  by_cases hlen : 900 < l.length
  · have d1 : decide (900 < (l.length : Int)) = true := decide_eq_true (by omega)
    have d2 : decide (900 < l.length) = true := decide_eq_true hlen
    go_enter Try.func8, Try.ntmps8
    go_wp2_with (go_at_call 10; refine (known_calls _).mono ?_; rintro e w' ⟨rfl, hb⟩)
    go_ret
    exact ⟨rfl, by assumption⟩
  · have d1 : decide (900 < (l.length : Int)) = false := decide_eq_false (by omega)
    have d2 : decide (900 < l.length) = false := decide_eq_false hlen
    have hok := cur_ok (m + 1) (by omega) (by omega) l
    have hcl : (cur (m + 1) l).length = m + 1 := hok.2.2.1
    have HOK := Lib.hid hok
    have HCL := Lib.hid hcl
    clear hok hcl
    go_enter Try.func8, Try.ntmps8
    go_wp2_with fail
    refine (counted_z _ _ (m + 1) (by omega) (by omega) (by omega) L l lc (by omega) HR.out HW.out).mono ?_
    rintro e w1 ⟨bp, bs, A, c, rfl, hc, hm, hrd, hp1, hp2, hb⟩
    go_wp2_with fail
    go_loopw [8] (fun i wr => ∃ j : Nat, j ≤ m + 3 ∧ i = .int .i64 ((j : Int) - 1) ∧ Hid (IsM wr bp bs (cur (m + 1) l) (cur (m + 1) l).sum) ∧ Hid (RdI wr bp bs A (cur (m + 1) l)) ∧ Hid (Below w.heap.size w wr)) (fun i _ => m + 5 - (intOf i + 1).toNat)
    case atStart => exact ⟨0, by omega, rfl, hm, hrd, hb⟩
    case round =>
      clear hm hrd hb
      obtain ⟨j, hj, rfl, hm, hrd, hb⟩ := hrel
      by_cases hlt : j ≤ m + 2
      · obtain ⟨K0, hK0⟩ := rshare HOK.out ((j : Int) - 1)
        have hK := hK0 K0 (Nat.le_refl _)
        obtain ⟨r1, r2, r3, hf⟩ : ∃ r1 r2 r3, shareS (cur (m + 1) l) ((j : Int) - 1) = (r1, r2, r3) := ⟨_, _, _, rfl⟩
        rw [hf] at hK
        have HF := Lib.hid hf
        have HK := Lib.hid hK
        clear hK0 hK hf
        have d3 : decide ((j : Int) - 1 ≤ 1 + (m : Int)) = true := decide_eq_true (by omega)
        go_wp2_with fail
        refine (share_any _ bp bs _ (m + 1) hm.out HOK.out _).mono ?_
        rintro e w2 ⟨he, dn, rfl⟩
        rw [HF.out] at he
        subst he
        have hrd' : RdI (wr.drewN dn) bp bs A (cur (m + 1) l) := RdI.below hrd.out (below_dN (Below.refl _ _) dn)
        have HRD' := Lib.hid hrd'
        clear hrd'
        go_wp2_with fail
        have hC := rd_C HRD'.out (by omega) (by omega) hc
        refine (calls_of_args (show _ = #[.slice A (cur (m + 1) l).length c, .int .i64 ((j : Int) - 1)] by rw [HCL.out]) (lapidaryref05_Share.calls K0 A c _ _ _ _ _ _ hC.1 hC.2 HK.out)).mono ?_
        rintro e w3 ⟨rfl, hd⟩
        obtain ⟨d2n, rfl⟩ := hd.out
        clear hC hd
        go_wp2
        go_roundw
        case rel => exact ⟨j + 1, by omega, by first | (go_num) | (congr 1; push_cast; omega), Lib.hid (hm.out.drewN (dn + d2n)), Lib.hid (RdI.below hrd.out (below_dN (Below.refl _ _) (dn + d2n))), Lib.hid (below_dN hb.out (dn + d2n))⟩
        case measure => simp [intOf]; omega
      · obtain rfl : j = m + 3 := by omega
        have d3 : decide (((m + 3 : Nat) : Int) - 1 ≤ 1 + (m : Int)) = false := decide_eq_false (by omega)
        obtain ⟨K1, hK1⟩ := rsum (cur (m + 1) l) HOK.out.inv (m + 1) (by rw [HCL.out]; exact Nat.le_refl _)
        have hK := hK1 K1 (Nat.le_refl _)
        rw [List.take_of_length_le (by rw [HCL.out]; exact Nat.le_refl _), show ((m + 1 : Nat) : Int) = 1 + (m : Int) by omega] at hK
        have HK := Lib.hid hK
        have hsz : ((cur (m + 1) l).length : Int) = 1 + (m : Int) := by rw [HCL.out]; omega
        have HSZ := Lib.hid hsz
        clear hK hK1 hsz
        go_wp2_with fail
        refine (total_calls _ bp bs _ _ hm.out).mono ?_
        rintro e w3 ⟨rfl, rfl⟩
        go_wp2_with fail
        have hC := rd_C hrd.out (by omega) (by omega) hc
        refine (calls_of_args (show _ = #[.slice A (cur (m + 1) l).length c, .int .i64 (1 + (m : Int))] by rw [HCL.out]) (lapidaryref05_Sum.calls K1 A c _ _ _ _ hC.1 hC.2 HK.out)).mono ?_
        rintro e w3 ⟨rfl, hd⟩
        obtain ⟨dn, rfl⟩ := hd.out
        clear hC hd
        go_wp2_with (first
          | (go_at_call 20; refine (size_calls _ bp bs _ _ (hm.out.drewN dn)).mono ?_; rintro e w4 ⟨rfl, rfl⟩; rw [HSZ.out])
          | (go_at_call 10; refine (known_calls _).mono ?_; rintro e w4 ⟨rfl, hb4⟩))
        go_ret
        exact ⟨rfl, (below_dN hb.out dn).trans (hb4.mono (below_dN hb.out dn).size)⟩

/-- Each place of a share is its symbol's. -/
theorem findL_at (cs : List Int) (hi : Inv cs) (s : Nat) (hs : s < cs.length) (t : Int) (h0 : 0 ≤ t) (h1 : t < cs.getD s 0) : ∀ (d i : Nat), s - i = d → i ≤ s → findL (cs.drop i) i ((cs.take s).sum - (cs.take i).sum + t) = s := by
  have hmono : ∀ (i : Nat), i ≤ s → (cs.take i).sum ≤ (cs.take s).sum := by
    intro i his
    have : cs.take s = cs.take i ++ (cs.take s).drop i := by
      have := List.take_append_drop i (cs.take s)
      rw [List.take_take, Nat.min_eq_left his] at this
      exact this.symm
    rw [this, List.sum_append]
    have := sum_nonneg ((cs.take s).drop i) (fun c hc => hi.1 c (List.mem_of_mem_take (List.mem_of_mem_drop hc)))
    omega
  intro d
  induction d with
  | zero =>
    intro i hd his
    obtain rfl : i = s := by omega
    obtain ⟨p1, p2, p3, p4, p5⟩ := hi.part (k := i) hs
    rw [p1, findL, if_pos (by omega)]
  | succ d ih =>
    intro i hd his
    obtain ⟨p1, p2, p3, p4, p5⟩ := hi.part (k := i) (by omega)
    have hm := hmono (i + 1) (by omega)
    rw [p1, findL, if_neg (by omega)]
    have := ih (i + 1) (by omega) (by omega)
    rw [p2] at this
    rw [show (cs.take s).sum - (cs.take i).sum + t - cs.getD i 0 = (cs.take s).sum - ((cs.take i).sum + cs.getD i 0) + t by omega]
    exact this

theorem findS_at (cs : List Int) (hi : Inv cs) (s : Nat) (hs : s < cs.length) (t : Int) (h0 : 0 ≤ t) (h1 : t < cs.getD s 0) : findS cs ((cs.take s).sum + t) = ((s : Int), 0) := by
  obtain ⟨p1, p2, p3, p4, p5⟩ := hi.part (k := s) hs
  have hsum : cs.sum = (cs.take (s + 1)).sum + (cs.drop (s + 1)).sum := by rw [← List.sum_append, List.take_append_drop]
  have h2 := sum_nonneg (cs.drop (s + 1)) (fun c hc => hi.1 c (List.mem_of_mem_drop hc))
  unfold findS
  rw [if_neg (by omega), if_neg (by omega)]
  have := findL_at cs hi s hs t h0 h1 s 0 (by omega) (by omega)
  simp only [List.take_zero, List.sum_nil, Int.sub_zero, List.drop_zero] at this
  rw [show ((0 : Nat) : Int) = 0 from rfl] at this
  rw [this]

set_option maxHeartbeats 1000000 in
set_option maxRecDepth 100000 in
theorem whole_row (w : World) (n0 : Int) (h0 : (Lit.int .u8 n0).wf = true) (L : Option Addr) (l : List Int) (lc : Nat) (hm : l.length ≤ maxLen) (hb : l.length * 2 ≤ 140737488351232) (hr : RdU w .u16 L l) (hw : ∀ x ∈ l, (Lit.int .u16 x).wf = true) (hc : l.length ≤ lc) :
    Calls Try.prog 4 #[.int .u8 n0, .slice L l.length lc] w fun e w' => e = .returned (.bool true) ∧ Below w.heap.size w w' := by
  have h0 := wfu8 h0
  have hw : ∀ x ∈ l, 0 ≤ x ∧ x < 65536 := fun x hx => wfu16 (hw x hx)
  obtain ⟨m, rfl⟩ := Int.eq_ofNat_of_zero_le h0.1
  have hm1 : m < 256 := by omega
  clear h0 hm hc
  have HR := Lib.hid hr
  have HW := Lib.hid hw
  clear hr hw
  by_cases hlen : 900 < l.length
  · have d1 : decide (900 < (l.length : Int)) = true := decide_eq_true (by omega)
    have d2 : decide (900 < l.length) = true := decide_eq_true hlen
    go_enter Try.func4, Try.ntmps4
    go_wp2_with (go_at_call 10; refine (known_calls _).mono ?_; rintro e w' ⟨rfl, hb⟩)
    go_ret
    exact ⟨rfl, by assumption⟩
  · have d1 : decide (900 < (l.length : Int)) = false := decide_eq_false (by omega)
    have d2 : decide (900 < l.length) = false := decide_eq_false hlen
    have hok := cur_ok (m + 1) (by omega) (by omega) l
    have hcl : (cur (m + 1) l).length = m + 1 := hok.2.2.1
    have HOK := Lib.hid hok
    have HCL := Lib.hid hcl
    clear hok hcl
    go_enter Try.func4, Try.ntmps4
    go_wp2_with fail
    refine (counted_z _ _ (m + 1) (by omega) (by omega) (by omega) L l lc (by omega) HR.out HW.out).mono ?_
    rintro e w1 ⟨bp, bs, A, c, rfl, hc, hm, hrd, hp1, hp2, hb⟩
    generalize cur (m + 1) l = cs at *
    go_wp2_with fail
    go_loopw [9, 8] (fun i a wr => ∃ s : Nat, s ≤ m + 1 ∧ i = .int .i64 s ∧ a = .int .i64 (cs.take s).sum ∧ Hid (IsM wr bp bs cs cs.sum) ∧ Hid (Below w.heap.size w wr)) (fun i _ _ => m + 1 - (intOf i).toNat)
    case atStart => exact ⟨0, by omega, rfl, rfl, hm, hb⟩
    case round =>
      clear hm hrd hb
      obtain ⟨s, hs, rfl, rfl, hm, hb⟩ := hrel
      by_cases hlt : s < m + 1
      · have hsl : s < cs.length := by rw [HCL.out]; exact hlt
        obtain ⟨p1, p2, p3, p4, p5⟩ := HOK.out.inv.part (k := s) hsl
        have f1 := findS_at cs HOK.out.inv s hsl 0 (by omega) (by omega)
        have f2 := findS_at cs HOK.out.inv s hsl (cs.getD s 0 - 1) (by omega) (by omega)
        rw [Int.add_zero] at f1
        rw [show (cs.take s).sum + (cs.getD s 0 - 1) = (cs.take s).sum + cs.getD s 0 - 1 by omega] at f2
        have F1 := Lib.hid f1
        have F2 := Lib.hid f2
        have P2 := Lib.hid p2
        clear f1 f2 p1 p2
        generalize hS : (cs.take s).sum = S at *
        have HS := Lib.hid hS
        generalize hV : cs.getD s 0 = v at *
        have HV := Lib.hid hV
        clear hS hV
        have d3 : decide ((s : Int) < 1 + (m : Int)) = true := decide_eq_true (by omega)
        have d4 : decide (v < 1) = false := decide_eq_false (by omega)
        go_wp2_with fail
        refine (share_ok _ bp bs cs _ hm.out HOK.out.inv s hsl).mono ?_
        rintro e w2 ⟨he, dn, rfl⟩
        rw [HS.out, HV.out] at he
        subst he
        have hm' := Lib.hid (hm.out.drewN dn)
        have hb' := Lib.hid (below_dN hb.out dn)
        go_wp2_with fail
        refine (find_any _ bp bs cs (m + 1) hm'.out HOK.out S).mono ?_
        rintro e w3 ⟨he, rfl⟩
        rw [F1.out] at he
        subst he
        go_wp2_with fail
        refine (find_any _ bp bs cs (m + 1) hm'.out HOK.out (S + v - 1)).mono ?_
        rintro e w3 ⟨he, rfl⟩
        rw [F2.out] at he
        subst he
        go_wp2
        go_roundw
        case rel => exact ⟨s + 1, by omega, by go_num, by rw [P2.out], hm', hb'⟩
        case measure => simp [intOf]; omega
      · obtain rfl : s = m + 1 := by omega
        have d3 : decide (((m + 1 : Nat) : Int) < 1 + (m : Int)) = false := decide_eq_false (by omega)
        have hS : (cs.take (m + 1)).sum = cs.sum := by rw [List.take_of_length_le (by rw [HCL.out]; exact Nat.le_refl _)]
        have hle := HOK.out.2.1
        have hff : findS cs cs.sum = (0, 2) := by
          have := sum_nonneg cs HOK.out.1
          unfold findS
          rw [if_neg (by omega), if_pos (Int.le_refl _)]
        have HFF := Lib.hid hff
        clear hff
        rw [hS]
        clear hS
        generalize hT : cs.sum = T at *
        have HT := Lib.hid hT
        have d5 : decide (T ≤ 8192) = true := decide_eq_true hle
        clear hT
        go_wp2_with fail
        refine (find_any _ bp bs cs (m + 1) (by rw [HT.out]; exact hm.out) HOK.out T).mono ?_
        rintro e w3 ⟨he, rfl⟩
        rw [HFF.out] at he
        subst he
        go_wp2_with (first
          | (go_at_call 15; refine (total_calls _ bp bs _ _ hm.out).mono ?_; rintro e w4 ⟨rfl, rfl⟩)
          | (go_at_call 10; refine (known_calls _).mono ?_; rintro e w4 ⟨rfl, hb4⟩))
        go_ret
        exact ⟨rfl, hb.out.trans (hb4.mono hb.out.size)⟩
end Go.Proofs.Ytjegnmnojgglaaa.MW
