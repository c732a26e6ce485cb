/- The walk of the statement ModelGrows. -/
import Derived.Test.YtjegnmnojgglaaaModelLawsA
namespace Go.Proofs.Ytjegnmnojgglaaa.MW
open Go Go.RowKit Go.Proofs.Ytjegnmnojgglaaa.PMod Go.Proofs.YtjegnmnojgglaaaW.PrintWords Go.Proofs.YtjegnmnojgglaaaW.PrintLast Go.Proofs.YtjegnmnojgglaaaW.PrintMore
set_option linter.unusedVariables false
set_option linter.unusedSimpArgs false

theorem share_z (w : World) (bp bs : Nat) (cs : List Int) (n : Nat) (h : IsM w bp bs cs cs.sum) (hok : Ok n cs) (z : Int) (s : Nat) (hz : z = s) (hs : s < n) (a : Int) (ha : cs.getD s 0 = a) :
    Calls Try.prog 14 #[.pointer (some ⟨bp, 0, none⟩), .int .i64 z] w fun e w' => (∃ S : Int, e = .returned (.tuple #[.int .i64 S, .int .i64 a, .int .i64 0])) ∧ ∃ m, w' = w.drewN m := by
  subst hz
  subst ha
  refine (share_ok w bp bs cs _ h hok.inv s (by rw [hok.2.2.1]; exact hs)).mono ?_
  rintro e w' ⟨rfl, hd⟩
  exact ⟨⟨_, rfl⟩, hd⟩

theorem half_getD (cs : List Int) (s : Nat) (hs : s < cs.length) : (halfL cs).getD s 0 = hf (cs.getD s 0) := by
  unfold halfL
  rw [List.getD_eq_getElem?_getD, List.getD_eq_getElem?_getD, List.getElem?_map, List.getElem?_eq_getElem hs]
  rfl

theorem set_getD (cs : List Int) (s t : Nat) (v : Int) (hs : s < cs.length) : (cs.set s v).getD t 0 = if s = t then v else cs.getD t 0 := by
  rw [List.getD_eq_getElem?_getD, List.getElem?_set]
  by_cases h : s = t
  · rw [if_pos h, if_pos (by omega), if_pos h]; rfl
  · rw [if_neg h, if_neg h, List.getD_eq_getElem?_getD]

theorem cnt_small {n : Nat} {cs : List Int} (h : Ok n cs) {s t : Nat} (hs : s < n) (ht : t < n) (hb : cs.sum + 32 ≤ 8192) : (cnt cs s).sum = cs.sum + 32 ∧ (cnt cs s).getD s 0 = cs.getD s 0 + 32 ∧ (s ≠ t → (cnt cs s).getD t 0 = cs.getD t 0) := by
  have hst := h.step hs
  have hl : cs.length = n := h.2.2.1
  have e : cnt cs s = cs.set s (cs.getD s 0 + 32) := by unfold cnt; rw [if_neg (by rw [hst.1]; omega)]
  rw [e]
  refine ⟨hst.1, ?_, fun hne => ?_⟩
  · rw [set_getD _ _ _ _ (by omega), if_pos rfl]
  · rw [set_getD _ _ _ _ (by omega), if_neg hne]

theorem cnt_big {n : Nat} {cs : List Int} (h : Ok n cs) {s t : Nat} (hs : s < n) (ht : t < n) (hb : 8192 < cs.sum + 32) : (cnt cs s).getD s 0 = (cs.getD s 0 + 33) / 2 ∧ (s ≠ t → (cnt cs s).getD t 0 = (cs.getD t 0 + 1) / 2) := by
  have hst := h.step hs
  have hl : cs.length = n := h.2.2.1
  have e : cnt cs s = halfL (cs.set s (cs.getD s 0 + 32)) := by unfold cnt; rw [if_pos (by rw [hst.1]; omega)]
  rw [e]
  refine ⟨?_, fun hne => ?_⟩
  · rw [half_getD _ _ (by rw [List.length_set]; omega), set_getD _ _ _ _ (by omega), if_pos rfl]
    unfold hf
    rw [Int.add_assoc]
    rfl
  · rw [half_getD _ _ (by rw [List.length_set]; omega), set_getD _ _ _ _ (by omega), if_neg hne]
    rfl

set_option maxHeartbeats 2000000 in
set_option maxRecDepth 100000 in
theorem grows_row (w : World) (n0 : Int) (h0 : (Lit.int .u8 n0).wf = true) (L : Option Addr) (l : List Int) (lc : Nat) (hm : l.length ≤ maxLen) (hb : l.length * 2 ≤ 140737488351232) (hr : RdU w .u16 L l) (hw : ∀ x ∈ l, (Lit.int .u16 x).wf = true) (hc : l.length ≤ lc) (s0 : Int) (hs0 : (Lit.int .u8 s0).wf = true) :
    Calls Try.prog 6 #[.int .u8 n0, .slice L l.length lc, .int .u8 s0] w fun e w' => e = .returned (.bool true) ∧ Below w.heap.size w w' := by
  have h0 := wfu8 h0
  have hs0 := wfu8 hs0
  have hw : ∀ x ∈ l, 0 ≤ x ∧ x < 65536 := fun x hx => wfu16 (hw x hx)
  obtain ⟨m, rfl⟩ := Int.eq_ofNat_of_zero_le h0.1
  have hm1 : m < 256 := by omega
  have hsa : 0 ≤ s0 := hs0.1
  have hsb : s0 < 256 := hs0.2
  clear h0 hm hc hs0
  have HR := Lib.hid hr
  have HW := Lib.hid hw
  clear hr hw
  by_cases hlen : 900 < l.length
  · have d1 : decide (900 < (l.length : Int)) = true := decide_eq_true (by omega)
    have d2 : decide (900 < l.length) = true := decide_eq_true hlen
    go_enter Try.func6, Try.ntmps6
    go_wp2_with (go_at_call 10; refine (known_calls _).mono ?_; rintro e w' ⟨rfl, hb⟩)
    go_ret
    exact ⟨rfl, by assumption⟩
  · have d1 : decide (900 < (l.length : Int)) = false := decide_eq_false (by omega)
    have d2 : decide (900 < l.length) = false := decide_eq_false hlen
    have hok := cur_ok (m + 1) (by omega) (by omega) l
    -- the two symbols
    obtain ⟨t1, ht1⟩ := Int.eq_ofNat_of_zero_le (show 0 ≤ s0 % (1 + (m : Int)) from Int.emod_nonneg _ (by omega))
    obtain ⟨t2, ht2⟩ := Int.eq_ofNat_of_zero_le (show 0 ≤ (s0 + 1) % (1 + (m : Int)) from Int.emod_nonneg _ (by omega))
    have hl1 : t1 < m + 1 := by have := Int.emod_lt_of_pos s0 (show 0 < 1 + (m : Int) by omega); omega
    have hl2 : t2 < m + 1 := by have := Int.emod_lt_of_pos (s0 + 1) (show 0 < 1 + (m : Int) by omega); omega
    have hne : m ≠ 0 → t1 ≠ t2 := by
      intro hm0 he
      have h1 : s0 % (1 + (m : Int)) = (s0 + 1) % (1 + (m : Int)) := by rw [ht1, ht2, he]
      have h2 := Int.emod_emod_of_dvd
      have h3 : (s0 + 1 - s0) % (1 + (m : Int)) = 0 := Int.emod_eq_emod_iff_emod_sub_eq_zero.1 h1.symm
      rw [show s0 + 1 - s0 = 1 by omega, Int.emod_eq_of_lt (by omega) (by omega)] at h3
      omega
    have HNE := Lib.hid hne
    have HT1 := Lib.hid ht1
    have HT2 := Lib.hid ht2
    have HOK := Lib.hid hok
    have hn0 : ¬ (1 + (m : Int)) = 0 := by omega
    have hy0 : 0 ≤ s0 % (1 + (m : Int)) := Int.emod_nonneg _ (by omega)
    have hy1 : s0 % (1 + (m : Int)) < 1 + (m : Int) := Int.emod_lt_of_pos _ (by omega)
    have hz0 : 0 ≤ (s0 + 1) % (1 + (m : Int)) := Int.emod_nonneg _ (by omega)
    have hz1 : (s0 + 1) % (1 + (m : Int)) < 1 + (m : Int) := Int.emod_lt_of_pos _ (by omega)
    clear hok ht1 ht2 hne
    -- the counts: before and after
    obtain ⟨a, ha⟩ : ∃ a, (cur (m + 1) l).getD t1 0 = a := ⟨_, rfl⟩
    obtain ⟨b, hb⟩ : ∃ b, (cur (m + 1) l).getD t2 0 = b := ⟨_, rfl⟩
    obtain ⟨c, hc⟩ : ∃ c, (cnt (cur (m + 1) l) t1).getD t1 0 = c := ⟨_, rfl⟩
    obtain ⟨d, hd⟩ : ∃ d, (cnt (cur (m + 1) l) t1).getD t2 0 = d := ⟨_, rfl⟩
    obtain ⟨T, hT⟩ : ∃ T, (cur (m + 1) l).sum = T := ⟨_, rfl⟩
    obtain ⟨U, hU⟩ : ∃ U, (cnt (cur (m + 1) l) t1).sum = U := ⟨_, rfl⟩
    have hT1 : T ≤ 8192 := by rw [← hT]; exact HOK.out.2.1
    have hT0 : 0 ≤ T := by rw [← hT]; exact sum_nonneg _ HOK.out.1
    have hU1 : U ≤ 8192 := by rw [← hU]; exact (HOK.out.step hl1).2.2.2.1
    have hU0 : 0 ≤ U := by rw [← hU]; exact sum_nonneg _ (HOK.out.step hl1).2.2.1
    have hval : ∀ (cs : List Int), Ok (m + 1) cs → ∀ t, t < m + 1 → 1 ≤ cs.getD t 0 ∧ cs.getD t 0 ≤ 10000 := by
      intro cs h t ht
      obtain ⟨_, _, p3, p4, p5⟩ := h.inv.part (k := t) (by rw [h.2.2.1]; exact ht)
      exact ⟨p5, by omega⟩
    have hva := hval _ HOK.out t1 hl1
    have hvb := hval _ HOK.out t2 hl2
    have hvc := hval _ (HOK.out.step hl1).2.2 t1 hl1
    have hvd := hval _ (HOK.out.step hl1).2.2 t2 hl2
    rw [ha] at hva
    rw [hb] at hvb
    rw [hc] at hvc
    rw [hd] at hvd
    obtain ⟨va0, va1⟩ := hva
    obtain ⟨vb0, vb1⟩ := hvb
    obtain ⟨vc0, vc1⟩ := hvc
    obtain ⟨vd0, vd1⟩ := hvd
    have hsm : T + 32 ≤ 8192 → U = T + 32 ∧ c = a + 32 ∧ (t1 ≠ t2 → d = b) := by
      intro h
      have := cnt_small HOK.out hl1 hl2 (by rw [hT]; exact h)
      rw [hU, hT, hc, ha, hd, hb] at this
      exact this
    have hbg : 8192 < T + 32 → c = (a + 33) / 2 ∧ (t1 ≠ t2 → d = (b + 1) / 2) := by
      intro h
      have := cnt_big HOK.out hl1 hl2 (by rw [hT]; exact h)
      rw [hc, ha, hd, hb] at this
      exact this
    have HSM := Lib.hid hsm
    have HBG := Lib.hid hbg
    have HA := Lib.hid ha
    have HB := Lib.hid hb
    have HC := Lib.hid hc
    have HD := Lib.hid hd
    have HT := Lib.hid hT
    have HU := Lib.hid hU
    clear hsm hbg ha hb hc hd hT hU hval
    -- the walk, up to the last test
    have main : ∀ (fin : (∀ (Z : Prop), Z → Z)), (m = 0 → decide ((1 : Int) + m = 1) = true) := fun _ h => by subst h; rfl
    go_enter Try.func6, Try.ntmps6
    go_wp2_with fail
    refine (counted_z _ _ (m + 1) (by omega) (by omega) (by omega) L l lc (by omega) HR.out HW.out).mono ?_
    rintro e w1 ⟨bp, bs, A, cc, rfl, hcc, hm, hrd, hp1, hp2, hb⟩
    go_wp2_with fail
    refine (total_calls _ bp bs _ _ hm.out).mono ?_
    rintro e w2 ⟨rfl, rfl⟩
    rw [HT.out]
    go_wp2_with fail
    refine (share_z _ bp bs _ (m + 1) hm.out HOK.out _ t1 HT1.out hl1 a HA.out).mono ?_
    rintro e w2 ⟨⟨S1, rfl⟩, dn1, rfl⟩
    have hm2 := Lib.hid (hm.out.drewN dn1)
    go_wp2_with fail
    refine (share_z _ bp bs _ (m + 1) hm2.out HOK.out _ t2 HT2.out hl2 b HB.out).mono ?_
    rintro e w2 ⟨⟨S2, rfl⟩, dn2, rfl⟩
    have hbp := hm.out.head.lt
    have hbs := hm.out.row.lt
    go_wp2_with fail
    refine (count_one _ bp bs (cur (m + 1) l) (m + 1) (IsM.alloc (hm.out.drewN _) _) HOK.out _ w1.heap.size (by simp [World.heap_drewN]) (by omega) (by omega) (alloc_cell0 (w1.drewN _) _ _) hy0 (by push_cast; omega)).mono ?_
    rintro e w3 ⟨rfl, hm3, ho3⟩
    have hcn : cntI (cur (m + 1) l) (s0 % (1 + (m : Int))) = cnt (cur (m + 1) l) t1 := by rw [HT1.out]; rfl
    rw [hcn] at hm3
    have hb3 : Below w.heap.size w w3 := ((below_dN hb.out (dn1 + dn2)).alloc (below_dN hb.out (dn1 + dn2)).size _).trans (ho3.below hp1 hp2 (by have := hb.out.size; simp; omega))
    have HOK3 := Lib.hid (HOK.out.step hl1).2.2
    have HM3 := Lib.hid hm3
    have HB3 := Lib.hid hb3
    clear hm3 hb3 ho3 hcn hbp hbs
    go_wp2_with fail
    refine (share_z _ bp bs _ (m + 1) HM3.out HOK3.out _ t1 HT1.out hl1 c HC.out).mono ?_
    rintro e w2 ⟨⟨S3, rfl⟩, dn3, rfl⟩
    have HM4 := Lib.hid (HM3.out.drewN dn3)
    go_wp2_with fail
    refine (share_z _ bp bs _ (m + 1) HM4.out HOK3.out _ t2 HT2.out hl2 d HD.out).mono ?_
    rintro e w2 ⟨⟨S4, rfl⟩, dn4, rfl⟩
    have HM5 := Lib.hid (HM3.out.drewN (dn3 + dn4))
    have HB5 := Lib.hid (below_dN HB3.out (dn3 + dn4))
    have d3 : decide ((1 : Int) + m = 1) = decide (m = 0) := by rw [Bool.eq_iff_iff]; simp; omega
    clear main hm2 hy0 hy1 hz0 hz1 hn0 HT1 HT2 d3
    by_cases hsmall : T + 32 ≤ 8192
    · obtain ⟨rfl, rfl, hd⟩ := HSM.out hsmall
      have d4 : decide (T + 32 ≤ T) = false := decide_eq_false (by omega)
      have d5 : decide (T + 32 ≤ 8192) = true := decide_eq_true hsmall
      by_cases hm0 : m = 0
      · subst hm0
        go_wp2_with (first
          | (go_at_call 15; refine (total_calls _ bp bs _ _ HM5.out).mono ?_; rintro e w4 ⟨rfl, rfl⟩; rw [HU.out])
          | (go_at_call 10; refine (known_calls _).mono ?_; rintro e w4 ⟨rfl, hb4⟩))
        go_ret
        exact ⟨rfl, HB5.out.trans (hb4.mono HB5.out.size)⟩
      · obtain rfl := hd (HNE.out hm0)
        have d6 : ((1 : Int) + (m : Int) == 1) = false := beq_eq_false_iff_ne.2 (by omega)
        go_wp2_with (first
          | (go_at_call 15; refine (total_calls _ bp bs _ _ HM5.out).mono ?_; rintro e w4 ⟨rfl, rfl⟩; rw [HU.out])
          | (go_at_call 10; refine (known_calls _).mono ?_; rintro e w4 ⟨rfl, hb4⟩))
        go_ret
        exact ⟨rfl, HB5.out.trans (hb4.mono HB5.out.size)⟩
    · obtain ⟨rfl, hd⟩ := HBG.out (by omega)
      have d5 : decide (T + 32 ≤ 8192) = false := decide_eq_false hsmall
      have key : ∀ (b1 : Bool), decide (U ≤ T) = b1 → True := fun _ _ => trivial
      clear key
      by_cases hUT : U ≤ T
      all_goals
        by_cases hm0 : m = 0
        · subst hm0
          go_wp2_with (first
            | (go_at_call 15; refine (total_calls _ bp bs _ _ HM5.out).mono ?_; rintro e w4 ⟨rfl, rfl⟩; rw [HU.out])
            | (go_at_call 10; refine (known_calls _).mono ?_; rintro e w4 ⟨rfl, hb4⟩))
          go_ret
          exact ⟨rfl, HB5.out.trans (hb4.mono HB5.out.size)⟩
        · obtain rfl := hd (HNE.out hm0)
          have d6 : ((1 : Int) + (m : Int) == 1) = false := beq_eq_false_iff_ne.2 (by omega)
          go_wp2_with (first
            | (go_at_call 15; refine (total_calls _ bp bs _ _ HM5.out).mono ?_; rintro e w4 ⟨rfl, rfl⟩; rw [HU.out])
            | (go_at_call 10; refine (known_calls _).mono ?_; rintro e w4 ⟨rfl, hb4⟩))
          go_ret
          exact ⟨rfl, HB5.out.trans (hb4.mono HB5.out.size)⟩
end Go.Proofs.Ytjegnmnojgglaaa.MW
