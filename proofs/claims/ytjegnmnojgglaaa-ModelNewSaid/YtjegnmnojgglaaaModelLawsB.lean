/- The walks of the statements ModelShares and ModelNew. -/
import Derived.Test.YtjegnmnojgglaaaModelLawsA
namespace Go.Proofs.Ytjegnmnojgglaaa.MW
open Go Go.RowKit Go.Proofs.Ytjegnmnojgglaaa.PMod Go.Proofs.YtjegnmnojgglaaaW.PrintWords Go.Proofs.YtjegnmnojgglaaaW.PrintLast Go.Proofs.YtjegnmnojgglaaaW.PrintMore
set_option linter.unusedVariables false
set_option linter.unusedSimpArgs false

theorem shares_row (w : World) (n0 : Int) (h0 : (Lit.int .u8 n0).wf = true) (L : Option Addr) (l : List Int) (lc : Nat) (hm : l.length ≤ maxLen) (hb : l.length * 2 ≤ 140737488351232) (hr : RdU w .u16 L l) (hw : ∀ x ∈ l, (Lit.int .u16 x).wf = true) (hc : l.length ≤ lc) (v : Int) (hv : (Lit.int .i64 v).wf = true) :
    Calls Try.prog 7 #[.int .u8 n0, .slice L l.length lc, .int .i64 v] w fun e w' => e = .returned (.bool true) ∧ Below w.heap.size w w' := by
  have h0 := wfu8 h0
  have hw : ∀ x ∈ l, 0 ≤ x ∧ x < 65536 := fun x hx => wfu16 (hw x hx)
  obtain ⟨m, rfl⟩ := Int.eq_ofNat_of_zero_le h0.1
  have hm1 : m < 256 := by omega
  clear h0 hv hm hc
  have HR := Lib.hid hr
  have HW := Lib.hid hw
  clear hr hw
  by_cases hlen : 900 < l.length
  · have d1 : decide (900 < (l.length : Int)) = true := decide_eq_true (by omega)
    have d2 : decide (900 < l.length) = true := decide_eq_true hlen
    go_enter Try.func7, Try.ntmps7
    go_wp2_with (go_at_call 10; refine (known_calls _).mono ?_; rintro e w' ⟨rfl, hb⟩)
    go_ret
    exact ⟨rfl, by assumption⟩
  · have d1 : decide (900 < (l.length : Int)) = false := decide_eq_false (by omega)
    have d2 : decide (900 < l.length) = false := decide_eq_false hlen
    have hok := cur_ok (m + 1) (by omega) (by omega) l
    obtain ⟨K0, hK0⟩ := rshare hok v
    have hK := hK0 K0 (Nat.le_refl _)
    obtain ⟨r1, r2, r3, hf⟩ : ∃ r1 r2 r3, shareS (cur (m + 1) l) v = (r1, r2, r3) := ⟨_, _, _, rfl⟩
    rw [hf] at hK
    have HF := Lib.hid hf
    have HOK := Lib.hid hok
    have HK := Lib.hid hK
    clear hok hK0 hK hf
    go_enter Try.func7, Try.ntmps7
    go_wp2_with fail
    refine (counted_z _ _ (m + 1) (by omega) (by omega) (by omega) L l lc (by omega) HR.out HW.out).mono ?_
    rintro e w1 ⟨bp, bs, A, c, rfl, hc, hm, hrd, hp1, hp2, hb⟩
    go_wp2_with fail
    refine (share_any _ bp bs _ (m + 1) hm.out HOK.out v).mono ?_
    rintro e w2 ⟨he, dn, rfl⟩
    rw [HF.out] at he
    subst he
    go_wp2_with fail
    have hC := rd_C (RdI.below hrd.out (below_dN (Below.refl _ _) dn)) (by omega) (by omega) hc
    refine (calls_of_args (show _ = #[.slice A (cur (m + 1) l).length c, .int .i64 v] by rw [HOK.out.2.2.1]) (lapidaryref05_Share.calls K0 A c _ _ _ _ _ _ hC.1 hC.2 HK.out)).mono ?_
    rintro e w3 ⟨rfl, hd⟩
    have hb3 := Lib.hid (below_drawn (below_dN hb.out dn) hd)
    clear hC hd
    go_wp2_with (go_at_call 10; refine (known_calls _).mono ?_; rintro e w4 ⟨rfl, hb4⟩)
    go_ret
    exact ⟨rfl, hb3.out.trans (hb4.mono hb3.out.size)⟩

set_option maxRecDepth 100000 in
theorem new_row (w : World) (n : Int) (hn : (Lit.int .i64 n).wf = true) :
    Calls Try.prog 9 #[.int .i64 n] w fun e w' => e = .returned (.bool true) ∧ Below w.heap.size w w' := by
  by_cases h1 : n < 1
  · have d1 : decide (n < 1) = true := decide_eq_true h1
    go_enter Try.func9, Try.ntmps9
    go_wp2_with (first
      | (go_at_call 16; refine (new_bad _ n (.inl h1)).mono ?_; rintro e w1 ⟨rfl, rfl⟩)
      | (go_at_call 20; refine (size_nil _).mono ?_; rintro e w2 ⟨rfl, rfl⟩)
      | (go_at_call 15; refine (total_nil _).mono ?_; rintro e w3 ⟨rfl, rfl⟩)
      | (go_at_call 10; refine (known_calls _).mono ?_; rintro e w4 ⟨rfl, hb4⟩))
    go_ret
    exact ⟨rfl, hb4⟩
  · by_cases h2 : 256 < n
    · have d1 : decide (n < 1) = false := decide_eq_false h1
      have d2 : decide (256 < n) = true := decide_eq_true h2
      go_enter Try.func9, Try.ntmps9
      go_wp2_with (first
        | (go_at_call 16; refine (new_bad _ n (.inr h2)).mono ?_; rintro e w1 ⟨rfl, rfl⟩)
        | (go_at_call 20; refine (size_nil _).mono ?_; rintro e w2 ⟨rfl, rfl⟩)
        | (go_at_call 15; refine (total_nil _).mono ?_; rintro e w3 ⟨rfl, rfl⟩)
        | (go_at_call 10; refine (known_calls _).mono ?_; rintro e w4 ⟨rfl, hb4⟩))
      go_ret
      exact ⟨rfl, hb4⟩
    · obtain ⟨m, rfl⟩ : ∃ m : Nat, n = ((m + 1 : Nat) : Int) := ⟨(n - 1).toNat, by omega⟩
      have hm : m < 256 := by omega
      have d1 : decide (((m + 1 : Nat) : Int) < 1) = false := decide_eq_false h1
      have d2 : decide (256 < ((m + 1 : Nat) : Int)) = false := decide_eq_false h2
      have d3 : decide (256 < m + 1) = false := decide_eq_false (by omega)
      have hone := ones_ok (m + 1) (by omega) (by omega)
      have HONE := Lib.hid hone
      have hlen : (List.replicate (m + 1) (1 : Int)).length = m + 1 := by simp
      have HLEN := Lib.hid hlen
      have hs : shareS (List.replicate (m + 1) 1) ((m : Nat) : Int) = ((m : Int), 1, 0) := by
        unfold shareS
        rw [if_neg (by omega), if_neg (by rw [hlen]; omega), Int.toNat_natCast]
        have h3 : (List.replicate (m + 1) (1 : Int)).take m = List.replicate m 1 := by simp
        have h4 : (List.replicate m (1 : Int)).sum = m := by
          clear d1 d2 d3 HONE hone h1 h2 hn hm hlen HLEN h3
          induction m with
          | zero => rfl
          | succ m ih => rw [List.replicate_succ, List.sum_cons, ih]; omega
        rw [h3, h4, List.getD_eq_getElem?_getD, List.getElem?_replicate, if_pos (by omega)]
        rfl
      have HS := Lib.hid hs
      clear hone hlen hs hn h1 h2
      go_enter Try.func9, Try.ntmps9
      go_wp2_with fail
      refine (new_ok _ (m + 1) (by omega) (by omega)).mono ?_
      rintro e w1 ⟨bp, bs, rfl, hm, hp1, hp2, hb⟩
      have hm' : IsM w1 bp bs (List.replicate (m + 1) 1) (List.replicate (m + 1) (1 : Int)).sum := by rw [HONE.out.2]; exact hm
      have HM := Lib.hid hm
      have HM' := Lib.hid hm'
      have HB := Lib.hid hb
      clear hm hm' hb
      go_wp2_with fail
      refine (share_any _ bp bs _ (m + 1) HM'.out HONE.out.1 (m : Int)).mono ?_
      rintro e w2 ⟨he, dn, rfl⟩
      rw [HS.out] at he
      subst he
      go_wp2_with (first
        | (go_at_call 20; refine (size_calls _ bp bs _ _ (HM.out.drewN dn)).mono ?_; rintro e w2 ⟨rfl, rfl⟩; rw [HLEN.out])
        | (go_at_call 15; refine (total_calls _ bp bs _ _ (HM.out.drewN dn)).mono ?_; rintro e w3 ⟨rfl, rfl⟩)
        | (go_at_call 10; refine (known_calls _).mono ?_; rintro e w4 ⟨rfl, hb4⟩))
      go_ret
      exact ⟨rfl, (below_dN HB.out dn).trans (hb4.mono (below_dN HB.out dn).size)⟩
end Go.Proofs.Ytjegnmnojgglaaa.MW
