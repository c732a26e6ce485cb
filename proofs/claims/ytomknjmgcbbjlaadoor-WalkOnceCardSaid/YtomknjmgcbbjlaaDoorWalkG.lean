import Derived.Test.YtomknjmgcbbjlaaDoorWalkM
import Derived.Test.YtomknjmgcbbjlaaDoorLike
namespace Go.Proofs.YtomknjmgcbbjlaaDoor.WW
open Go Go.RowKit Go.Maps Go.WideMaps Go.Proofs.YtomknjmgcbbjlaaDoor.Mem Go.Proofs.YtomknjmgcbbjlaaDoor.PWlk Go.Proofs.YtomknjmgcbbjlaaDoorW.PrintWords Go.Proofs.YtomknjmgcbbjlaaDoorW.PrintLast Go.Proofs.YtomknjmgcbbjlaaDoorW.PrintMore
open Go.Proofs.YtomknjmgcbbjlaaDoor.MM (datE edgesU lawE zeroE kE kE_key wfE trs trT)
open Go.Proofs.YtomknjmgcbbjlaaDoor.WP (Wk fnd add third gate)
set_option linter.unusedVariables false
set_option linter.unnecessarySimpa false
set_option linter.unusedSimpArgs false
set_option maxRecDepth 100000
section
variable {sk : List Nat} {tg : Nat → Nat} {w w' : World} {base b : Nat} {A0 : Option Addr} {c0 : Nat} {A1 : Option Addr} {c1 : Nat} {P : List S46} {T : List S47} {e : Nat} {vm vn vv vo vt vg vs : Value} {s : Wk}
theorem St.same (h : St sk tg w base b A0 c0 A1 c1 P T e vm vn vv vo vt vg vs s) {s' : Wk} (hV : s'.V = s.V) (hO : s'.O = s.O) (hT : s'.T = s.T) (hG : s'.G = s.G) (hS : s'.S = s.S) : St sk tg w base b A0 c0 A1 c1 P T e vm vn vv vo vt vg vs s' :=
  ⟨h.blk, h.bb, h.be, h.map, fun k => by rw [hO]; exact h.met k, fun k => by rw [hV]; exact h.num k, fun k => by rw [hV]; exact h.verts k, fun k => by rw [hO]; exact h.order k, fun k => by rw [hT]; exact h.tris k, fun k => by rw [hG]; exact h.gates k, fun k => by rw [hS]; exact h.steps k⟩
structure Surf (P : List S46) (T : List S47) : Prop where
  hp : MR.Plain P T
  hF : MR.Firsts T T.length
  hP : P.length ≤ 4000
  hT : T.length ≤ 8000
theorem Surf.rng (h : Surf P T) {i : Nat} (hi : i < T.length) {v : Int} (hv : Fan.has3 (trs T i) v = true) : 0 ≤ v ∧ v < P.length := (LK.triOk_iff.1 (h.hp.2 i hi)).2 v hv
structure Small (s : Wk) : Prop where
  V : s.V.length ≤ 50000
  O : s.O.length ≤ 50000
  T : s.T.length ≤ 50000
  G : s.G.length ≤ 50000
  S : s.S.length ≤ 500000
theorem wfp {x : Int} (h : 0 ≤ x ∧ x < (P.length : Int)) (hP : P.length ≤ 4000) : (Lit.int .i64 x).wf = true := MM.wf_small (by omega)
theorem row_two {g : Nat} {p v q : Int} (hB : Blk w g 107 #[.int .i64 p, .int .i64 v, .int .i64 v, .int .i64 q]) : ReadsRow (k107.K w) k107.sz w (some ⟨g, 0, none⟩) 2 [(⟨p, v⟩ : S107), ⟨v, q⟩] := by
  refine ⟨rfl, by decide, fun _ => ⟨_, rfl, fun j x hj => ?_⟩⟩
  match j, hj with
  | 0, hj =>
    obtain rfl : (⟨p, v⟩ : S107) = x := Option.some.inj hj
    refine ⟨[.int .i64 p, .int .i64 v], rfl, k107_mk _ _, fun i u hu => ?_⟩
    rw [Addr.add_lit]
    match i, hu with
    | 0, hu => cases hu; exact hB.cell 0
    | 1, hu => cases hu; exact hB.cell 1
    | i + 2, hu => simp at hu
  | 1, hj =>
    obtain rfl : (⟨v, q⟩ : S107) = x := Option.some.inj hj
    refine ⟨[.int .i64 v, .int .i64 q], rfl, k107_mk _ _, fun i u hu => ?_⟩
    rw [Addr.add_lit]
    match i, hu with
    | 0, hu => cases hu; exact hB.cell 2
    | 1, hu => cases hu; exact hB.cell 3
    | i + 2, hu => simp at hu
  | j + 2, hj => simp at hj
set_option maxHeartbeats 2000000 in
theorem gate96 (h : St [] tg w base b A0 c0 A1 c1 P T e vm vn vv vo vt vg vs s) (hS : Surf P T) (hC : Kd.C k47 w A1 T.length T) (p q : Int) (hp : 0 ≤ p ∧ p < P.length) (hq : 0 ≤ q ∧ q < P.length) (hs : Small s) :
    Calls Tryd.prog 96 #[.pointer (some ⟨b, 0, none⟩), .int .i64 p, .int .i64 q] w fun en w' => en = .returned (.tuple #[]) ∧ Below base w w' ∧ ∃ tg' vm' vn' vv' vo' vt' vg' vs', St [] tg' w' base b A0 c0 A1 c1 P T e vm' vn' vv' vo' vt' vg' vs' (gate (MC.look T) (trs T) s p q) := by
  have hbb := h.bb
  have hkey := kE_key (wfp hq hS.hP) (wfp hp hS.hP)
  have hwe : wfE (q, p) := ⟨wfp hq hS.hP, wfp hp hS.hP⟩
  have hlk := MC.looks hS.hp (by have := hS.hP; omega) hS.hF
  have x2 : w.cell? ⟨b, 2, none⟩ = some (.map (some e)) := h.blk.cell 2
  have hmap := Lib.hid h.map
  cases hl : MC.look T (q, p) with
  | none =>
    have hno := hlk.none_ (q, p) hwe hl
    have hst := Lib.hid (step93 h 1 0 (by have := hs.S; omega))
    obtain ⟨D, hD⟩ : ∃ D, D = datE (edgesU T T.length) := ⟨_, rfl⟩
    rw [← hD] at hno hmap hlk
    obtain ⟨kl, hk⟩ : ∃ kl, kl = kE (q, p) := ⟨_, rfl⟩
    rw [← hk] at hno hkey
    replace hlk := Lib.hid hlk
    replace hS := Lib.hid hS
    replace hl := Lib.hid hl
    clear h hC hwe hk hD hs hp hq
    go_enter Tryd.func96, Tryd.ntmps96
    go_wp2_with (first | (at_lookup; refine wpList_lookup_own_ok_int _ rfl _ _ 94 rfl 107 3 .i64 lawE Tryd.underlying94 Tryd.underlying3 (zeroE _) e _ D rfl hmap.out _ _ rfl hkey ?_; intro c2 hat2 hwc2))
    refine hst.out.mono ?_
    rintro en w2 ⟨rfl, hb2, tg2, hf2, vs2, h2⟩
    go_wp2_with fail
    refine bodyPost_ret (results_none rfl _ _ _) rfl ?_
    refine ⟨rfl, hb2, tg2, vm, vn, vv, vo, vt, vg, vs2, ?_⟩
    unfold gate
    rw [hl.out]
    exact h2.same rfl rfl rfl rfl rfl
  | some i =>
    obtain ⟨hi, he⟩ := MC.look_some hl
    obtain ⟨hh, hat⟩ := hlk.some_ (q, p) i hwe hl
    have hD2 := hat (.lit (.int .i64 0))
    have hpl : Fan.plain3 (trs T i) := (hS.hp.2 i hi).2
    have hrt := WP.rot_third_of he
    have hv := hS.rng hi (v := third (trs T i) p q) (by rw [← LK.rot_has hrt]; simp [Fan.has3])
    have hsum : third (trs T i) p q = (T.getD i z47).f0 + (T.getD i z47).f1 + (T.getD i z47).f2 - p - q := rfl
    obtain ⟨D, hD⟩ : ∃ D, D = datE (edgesU T T.length) := ⟨_, rfl⟩
    rw [← hD] at hh hmap hD2
    obtain ⟨kl, hk⟩ : ∃ kl, kl = kE (q, p) := ⟨_, rfl⟩
    rw [← hk] at hh hkey hD2
    obtain ⟨gm, cm, rfl, hgmb, hgml, cellsm, hgmc⟩ := Kd.R_form (h.met nin) (by rw [metL_len]; omega)
    rw [metL_len] at h
    have x3 : w.cell? ⟨b, 3, none⟩ = some (.slice (some ⟨gm, 0, none⟩) T.length cm) := h.blk.cell 3
    obtain ⟨mc, mf⟩ := Kd.R_celln false (h.met nin) (i : Int) (by omega) (by omega)
    rw [metL_at hi, Int.toNat_natCast] at mc
    have pi1 : ((0 : Int) ≤ (i : Int)) = True := eq_true (by omega)
    have pi2 : ((i : Int) < (T.length : Int)) = True := eq_true (by omega)
    by_cases hO : i ∈ s.O
    · rw [decide_eq_true hO] at mc
      have hgate : gate (MC.look T) (trs T) s p q = s := by unfold gate; rw [hl]; dsimp only; rw [if_pos hO]
      rw [hgate]
      have H := Lib.hid h
      replace hlk := Lib.hid hlk
      replace hS := Lib.hid hS
      clear h hC hwe hk hD hs hp hq hl he hat hpl hrt hv hsum hgate mf hgmc hgml hgmb hi hO
      go_enter Tryd.func96, Tryd.ntmps96
      go_wp2_with (first | (at_lookup; refine wpList_lookup_own_ok_int _ rfl _ _ 94 rfl 107 3 .i64 lawE Tryd.underlying94 Tryd.underlying3 (zeroE _) e _ D rfl hmap.out _ _ rfl hkey ?_; intro c2 hat2 hwc2; rw [hD2] at hat2; obtain rfl := MM.int_lit hat2))
      refine bodyPost_ret (results_none rfl _ _ _) rfl ?_
      exact ⟨rfl, Below.refl _ _, tg, _, vn, vv, vo, vt, vg, vs, H.out⟩
    · rw [decide_eq_false hO] at mc
      obtain ⟨ad1, e1, y0, y1, y2⟩ := at_T47 hC (i : Int) (by omega) (by omega)
      cases e1
      have x1 : w.cell? ⟨b, 1, none⟩ = some (.slice (some ad1) T.length c1) := h.blk.cell 1
      have hq3 : rd_T47 T (i : Int) = T.getD i z47 := by unfold rd_T47; rw [Int.toNat_natCast]
      rw [hq3, Int.toNat_natCast] at y0 y1 y2
      generalize hv3 : third (trs T i) p q = v at *
      have hb3 := hS.rng hi (v := (T.getD i z47).f0) (by simp [Fan.has3, trs, trT])
      have hb4 := hS.rng hi (v := (T.getD i z47).f1) (by simp [Fan.has3, trs, trT])
      have hb5 := hS.rng hi (v := (T.getD i z47).f2) (by simp [Fan.has3, trs, trT])
      have hgate : gate (MC.look T) (trs T) s p q = { V := add s.V v, O := s.O ++ [i], R := s.R ++ [(q, p, v)], T := s.T ++ [LK.map3 (fnd (add s.V v)) (q, p, v)], G := (v, q) :: (p, v) :: s.G, S := s.S ++ [if v ∈ s.V then (3, fnd s.V v) else (2, 0)], B := s.B } := by
        unfold gate
        rw [hl]
        dsimp only
        rw [if_neg hO, hv3]
      rw [hgate]
      obtain ⟨sF, hsF⟩ : ∃ sF : Wk, sF = { V := add s.V v, O := s.O ++ [i], R := s.R ++ [(q, p, v)], T := s.T ++ [LK.map3 (fnd (add s.V v)) (q, p, v)], G := (v, q) :: (p, v) :: s.G, S := s.S ++ [if v ∈ s.V then (3, fnd s.V v) else (2, 0)], B := s.B } := ⟨_, rfl⟩
      rw [← hsF]
      replace hsF := Lib.hid hsF
      have h1 := h.alloc (.cells #[.int .i64 (T.getD i z47).f0, .int .i64 (T.getD i z47).f1, .int .i64 (T.getD i z47).f2] 47 (0, 0))
      have hB := Blk.here w 47 #[.int .i64 (T.getD i z47).f0, .int .i64 (T.getD i z47).f1, .int .i64 (T.getD i z47).f2]
      have hb1 := (Below.refl base w).alloc (Nat.le_of_lt h.lt) (.cells #[.int .i64 (T.getD i z47).f0, .int .i64 (T.getD i z47).f1, .int .i64 (T.getD i z47).f2] 47 (0, 0))
      have hm := Lib.hid (meet94 h1 v hv.1 hv.2 (by have := hs.V; omega))
      generalize (T.getD i z47).f0 = f0 at *
      generalize (T.getD i z47).f1 = f1 at *
      generalize (T.getD i z47).f2 = f2 at *
      have hw1 : wrap64 (f0 + f1) = f0 + f1 := by unfold wrap64; have := hS.hP; omega
      have hw2 : wrap64 (f0 + f1 + f2) = f0 + f1 + f2 := by unfold wrap64; have := hS.hP; omega
      have hw3 : wrap64 (f0 + f1 + f2 - p) = f0 + f1 + f2 - p := by unfold wrap64; have := hS.hP; omega
      have hw4 : wrap64 (f0 + f1 + f2 - p - q) = v := by rw [← hsum]; unfold wrap64; have := hS.hP; omega
      have q0 := hB.cell 0
      have q1 := hB.cell 1
      have q2 := hB.cell 2
      replace hlk := Lib.hid hlk
      replace hS := Lib.hid hS
      replace hs := Lib.hid hs
      replace h := Lib.hid h
      replace h1 := Lib.hid h1
      replace hv := Lib.hid hv
      have hpr := Lib.hid hp
      have hqr := Lib.hid hq
      have hir := Lib.hid hi
      have hOr := Lib.hid hO
      clear hC hwe hk hD hp hq hl he hat hpl hrt hsum hgate mf hgmc hgml hgmb hi hO hb3 hb4 hb5 hq3
      go_enter Tryd.func96, Tryd.ntmps96
      go_upto_region 6 with (first | (at_lookup; refine wpList_lookup_own_ok_int _ rfl _ _ 94 rfl 107 3 .i64 lawE Tryd.underlying94 Tryd.underlying3 (zeroE _) e _ D rfl hmap.out _ _ rfl hkey ?_; intro c2 hat2 hwc2; rw [hD2] at hat2; obtain rfl := MM.int_lit hat2))
      simp only [hw4]
      generalize hgw1 : w.alloc (.cells #[.int .i64 f0, .int .i64 f1, .int .i64 f2] 47 (0, 0)) = w1 at *
      clear hw1 hw2 hw3 hw4 q0 q1 q2 y0 y1 y2 x1 x2 x3 mc
      by_cases hvm : v ∈ s.V
      · have hvm' := decide_eq_true hvm
        rw [hvm'] at hm
        have hadd := Lib.hid (show add s.V v = s.V by unfold add; rw [if_pos hvm])
        have hfb : -1 ≤ fnd s.V v ∧ fnd s.V v ≤ 100000 := by
          unfold fnd
          rw [if_pos hvm]
          have := List.idxOf_lt_length_of_mem hvm
          have := hs.out.V
          omega
        have hvH := Lib.hid hvm
        clear hvm' hvm
        go_upto_region 7 with (go_at_call 94; refine hm.out.mono ?_; rintro en w2 ⟨rfl, hb2, tg2, hf2, vv2, h2⟩)
        obtain ⟨gn, cn, rfl, _⟩ := Kd.R_form (h2.num nin) (by rw [numL_len]; have := hv.out; omega)
        rw [numL_len] at h2
        have z4 : w2.cell? ⟨b, 4, none⟩ = some (.slice (some ⟨gn, 0, none⟩) P.length cn) := h2.blk.cell 4
        have zn := (Kd.R_celln 0 (h2.num nin) v hv.out.1 hv.out.2).1
        rw [numL_at hv.out.1 hv.out.2, show ({ s with V := add s.V v } : Wk).V = add s.V v from rfl, hadd.out] at zn
        have pv1 := eq_true hv.out.1
        have pv2 := eq_true hv.out.2
        have hbw2 := hb1.trans hb2
        obtain ⟨fx, hfx⟩ : ∃ fx, fx = fnd s.V v := ⟨_, rfl⟩
        rw [← hfx] at zn hfb
        have HX : Hid ((if v ∈ s.V then ((3 : Int), fnd s.V v) else (2, 0)) = (3, fx)) := Lib.hid (by rw [hfx]; exact if_pos hvH.out)
        have hwf : wrap64 (fx + 1 - 1) = fx := by unfold wrap64; omega
        obtain ⟨gx, hgx⟩ : ∃ gx, gx = fx + 1 := ⟨_, rfl⟩
        rw [← hgx] at zn hwf
        have hst := Lib.hid (step93 h2 3 fx (by show s.S.length ≤ _; have := hs.out.S; omega))
        clear hgx hm hfb
        replace hfx := Lib.hid hfx
        go_upto_region 9 with (go_at_call 93; rw [hwf]; refine hst.out.mono ?_; rintro en w3 ⟨rfl, hb3, tg3, hf3, vs3, h3⟩)
        have hbw3 := hbw2.trans hb3
        clear z4 zn h2 hst hb2 hb3 hbw2
        have hs3 : ({ s with V := add s.V v, S := s.S ++ [((3 : Int), fx)] } : Wk).V.length ≤ 100000 := by show (add s.V v).length ≤ _; rw [hadd.out]; have := hs.out.V; omega
        have hsm3 := hs3
        have hT3 := Lib.hid (take95 h3 i hir.out q p v hqr.out hpr.out hv.out (by have := hs.out.O; show s.O.length ≤ _; omega) (by have := hs.out.T; show s.T.length ≤ _; omega) (by have := hS.out.hT; omega) hsm3)
        clear h3
        go_wp2_with fail
        refine hT3.out.mono ?_
        rintro en w4 ⟨rfl, hb4, tg4, hf4, vo4, vt4, h4⟩
        have hbw4 := hbw3.trans hb4
        clear hT3
        obtain ⟨tg5, htg⟩ : ∃ t, t = (fun k => if w4.heap.size ≤ k then 7 else tg4 k) := ⟨_, rfl⟩
        have h5 := h4.retag 7
        rw [← htg] at h5
        have hfr : ∀ k, w4.heap.size ≤ k → tg5 k = 7 := fun k hk => by rw [htg]; exact if_pos hk
        have hbw5 : base ≤ w4.heap.size := Nat.le_of_lt h5.lt
        obtain ⟨A7, c7, rfl⟩ := Kd.R_slice (h5.gates nin)
        have hgt7 : (h5.gates nin) = (h5.gates nin) := rfl
        have hne : some b ≠ (Value.slice A7 (s.G.reverse.map to107).length c7).ownBlock := Kd.R_ne (h5.gates nin) h5.blk (by decide)
        have hrow := (h5.gates nin).1
        have hty := Kd.R_typed (h5.gates nin)
        have hnm : some e ≠ (Value.slice A7 (s.G.reverse.map to107).length c7).ownBlock := fun ee => by
          obtain ⟨cs, hcs⟩ := hty e ee.symm
          exact h5.ne_map hcs rfl
        have x8 : w4.cell? ⟨b, 8, none⟩ = some (.slice A7 (s.G.reverse.map to107).length c7) := h5.blk.cell 8
        have hLG : (s.G.reverse.map to107).length ≤ 50000 := by rw [List.length_map, List.length_reverse]; exact hs.out.G
        have H6 := Lib.hid (h5.skip (sk' := [7]) (by simp))
        have hgr := Lib.hid (h5.gates nin)
        have hpush : s.G.reverse.map to107 ++ [(⟨p, v⟩ : S107), ⟨v, q⟩] = (((v, q) :: (p, v) :: s.G).reverse).map to107 := by simp [to107]
        obtain ⟨L7, hL7⟩ : ∃ L, L = s.G.reverse.map to107 := ⟨_, rfl⟩
        have hgr2 : Hid (k107.R 107 w4 base (fun k => tg5 k = 7) (.slice A7 L7.length c7) L7) := Lib.hid (by rw [hL7]; exact hgr.out)
        rw [← hL7] at x8 hne hrow hty hnm hLG hpush H6
        replace hpush := Lib.hid hpush
        replace hL7 := Lib.hid hL7
        have HF := Lib.hid hfr
        have HR := Lib.hid hrow
        have hB4 := Blk.here w4 107 #[.int .i64 p, .int .i64 v, .int .i64 v, .int .i64 q]
        have hRR : ReadsRow (k107.K (w4.alloc (.cells #[.int .i64 p, .int .i64 v, .int .i64 v, .int .i64 q] 107 (0, 0)))) k107.sz (w4.alloc (.cells #[.int .i64 p, .int .i64 v, .int .i64 v, .int .i64 q] 107 (0, 0))) (some ⟨w4.heap.size, 0, none⟩) 2 [(⟨p, v⟩ : S107), ⟨v, q⟩] := row_two hB4
        replace hB4 := Lib.hid hB4
        replace hRR := Lib.hid hRR
        clear htg h4 h5 hfr hrow hty hgr hgt7
        go_wp2_with (first | (at_builtin; go_must (refine Kd.R_append_rows k107 (Rr := k107.K (w4.alloc (.cells #[.int .i64 p, .int .i64 v, .int .i64 v, .int .i64 q] 107 (0, 0)))) (w0 := w4) (W := w4.alloc (.cells #[.int .i64 p, .int .i64 v, .int .i64 v, .int .i64 q] 107 (0, 0))) base rfl (.tmp 80) (.tmp 87) 35 107 (.agg #[.int .i64 0, .int .i64 0]) 16 rfl Tryd.underlying35 info107 rfl (by decide) (by decide) (.slice A7 L7.length c7) L7 [(⟨p, v⟩ : S107), ⟨v, q⟩] (some ⟨w4.heap.size, 0, none⟩) 2 2 (fun k => tg5 k = 7) (fun _ => False) rfl rfl (Kd.R_alloc hgr2.out _) hRR.out (fun x cs hx => by rw [k107_open hx]; exact k107_mkM _ _ _ _) (fun _ hk => hk.elim) (fun k hk => HF.out k (by simp at hk; omega)) (below_alloc (Below.refl _ _) _ |> fun hh => (hh.mono hbw5)) (by simp; omega) (by omega) ?_); intro v18 w18 hR18 hb18 hg18 hat18; obtain ⟨A8, c8, rfl⟩ := Kd.R_slice hR18; rw [show (L7 ++ [(⟨p, v⟩ : S107), ⟨v, q⟩]).length = L7.length + 2 by simp] at hR18 hat18 ⊢; have hm18 := (H6.out.alloc _).blk.grown hg18 hne; have y8 : w18.cell? ⟨b, 8, none⟩ = some (.slice A7 L7.length c7) := hm18.cell 8; have f8 := hm18.frozen 8))
        go_end0
        have S18 := (H6.out.alloc (.cells #[.int .i64 p, .int .i64 v, .int .i64 v, .int .i64 q] 107 (0, 0))).grown hg18 HR.out (by simp) hne hnm
        have S19 := S18.put7 (by simp) (.slice A8 (L7.length + 2) c8)
        have V19 := Kd.R_set hR18 S18.blk (by decide) 8 (.slice A8 (L7.length + 2) c8)
        rw [hpush.out] at V19
        refine ⟨rfl, (hbw4.trans hb18).setCell (p := ⟨b, 8, none⟩) hbb _, tg5, _, _, _, _, _, _, _, by
          rw [hsF.out]
          exact ⟨S19.blk, S19.bb, S19.be, S19.map, fun _ => S19.met (by simp), fun _ => S19.num (by simp), fun _ => S19.verts (by simp), fun _ => S19.order (by simp), fun _ => S19.tris (by simp), fun _ => V19, fun _ => by
            rw [HX.out]
            exact S19.steps (by simp)⟩⟩
      · have hvm' := decide_eq_false hvm
        rw [hvm'] at hm
        have HX : Hid ((if v ∈ s.V then ((3 : Int), fnd s.V v) else (2, 0)) = (2, 0)) := Lib.hid (if_neg hvm)
        have haddl : (add s.V v).length ≤ 50001 := by unfold add; rw [if_neg hvm, List.length_append]; have := hs.out.V; simp; omega
        clear hvm' hvm
        go_upto_region 8 with (go_at_call 94; refine hm.out.mono ?_; rintro en w2 ⟨rfl, hb2, tg2, hf2, vv2, h2⟩)
        have hbw2 := hb1.trans hb2
        have hst := Lib.hid (step93 h2 2 0 (by show s.S.length ≤ _; have := hs.out.S; omega))
        clear hm
        go_upto_region 9 with (go_at_call 93; refine hst.out.mono ?_; rintro en w3 ⟨rfl, hb3, tg3, hf3, vs3, h3⟩)
        have hbw3 := hbw2.trans hb3
        clear h2 hst hb2 hb3 hbw2
        have hs3 : ({ s with V := add s.V v, S := s.S ++ [((2 : Int), (0 : Int))] } : Wk).V.length ≤ 100000 := by show (add s.V v).length ≤ _; omega
        have hsm3 := hs3
        have hT3 := Lib.hid (take95 h3 i hir.out q p v hqr.out hpr.out hv.out (by have := hs.out.O; show s.O.length ≤ _; omega) (by have := hs.out.T; show s.T.length ≤ _; omega) (by have := hS.out.hT; omega) hsm3)
        clear h3
        go_wp2_with fail
        refine hT3.out.mono ?_
        rintro en w4 ⟨rfl, hb4, tg4, hf4, vo4, vt4, h4⟩
        have hbw4 := hbw3.trans hb4
        clear hT3
        obtain ⟨tg5, htg⟩ : ∃ t, t = (fun k => if w4.heap.size ≤ k then 7 else tg4 k) := ⟨_, rfl⟩
        have h5 := h4.retag 7
        rw [← htg] at h5
        have hfr : ∀ k, w4.heap.size ≤ k → tg5 k = 7 := fun k hk => by rw [htg]; exact if_pos hk
        have hbw5 : base ≤ w4.heap.size := Nat.le_of_lt h5.lt
        obtain ⟨A7, c7, rfl⟩ := Kd.R_slice (h5.gates nin)
        have hgt7 : (h5.gates nin) = (h5.gates nin) := rfl
        have hne : some b ≠ (Value.slice A7 (s.G.reverse.map to107).length c7).ownBlock := Kd.R_ne (h5.gates nin) h5.blk (by decide)
        have hrow := (h5.gates nin).1
        have hty := Kd.R_typed (h5.gates nin)
        have hnm : some e ≠ (Value.slice A7 (s.G.reverse.map to107).length c7).ownBlock := fun ee => by
          obtain ⟨cs, hcs⟩ := hty e ee.symm
          exact h5.ne_map hcs rfl
        have x8 : w4.cell? ⟨b, 8, none⟩ = some (.slice A7 (s.G.reverse.map to107).length c7) := h5.blk.cell 8
        have hLG : (s.G.reverse.map to107).length ≤ 50000 := by rw [List.length_map, List.length_reverse]; exact hs.out.G
        have H6 := Lib.hid (h5.skip (sk' := [7]) (by simp))
        have hgr := Lib.hid (h5.gates nin)
        have hpush : s.G.reverse.map to107 ++ [(⟨p, v⟩ : S107), ⟨v, q⟩] = (((v, q) :: (p, v) :: s.G).reverse).map to107 := by simp [to107]
        obtain ⟨L7, hL7⟩ : ∃ L, L = s.G.reverse.map to107 := ⟨_, rfl⟩
        have hgr2 : Hid (k107.R 107 w4 base (fun k => tg5 k = 7) (.slice A7 L7.length c7) L7) := Lib.hid (by rw [hL7]; exact hgr.out)
        rw [← hL7] at x8 hne hrow hty hnm hLG hpush H6
        replace hpush := Lib.hid hpush
        replace hL7 := Lib.hid hL7
        have HF := Lib.hid hfr
        have HR := Lib.hid hrow
        have hB4 := Blk.here w4 107 #[.int .i64 p, .int .i64 v, .int .i64 v, .int .i64 q]
        have hRR : ReadsRow (k107.K (w4.alloc (.cells #[.int .i64 p, .int .i64 v, .int .i64 v, .int .i64 q] 107 (0, 0)))) k107.sz (w4.alloc (.cells #[.int .i64 p, .int .i64 v, .int .i64 v, .int .i64 q] 107 (0, 0))) (some ⟨w4.heap.size, 0, none⟩) 2 [(⟨p, v⟩ : S107), ⟨v, q⟩] := row_two hB4
        replace hB4 := Lib.hid hB4
        replace hRR := Lib.hid hRR
        clear htg h4 h5 hfr hrow hty hgr hgt7
        go_wp2_with (first | (at_builtin; go_must (refine Kd.R_append_rows k107 (Rr := k107.K (w4.alloc (.cells #[.int .i64 p, .int .i64 v, .int .i64 v, .int .i64 q] 107 (0, 0)))) (w0 := w4) (W := w4.alloc (.cells #[.int .i64 p, .int .i64 v, .int .i64 v, .int .i64 q] 107 (0, 0))) base rfl (.tmp 80) (.tmp 87) 35 107 (.agg #[.int .i64 0, .int .i64 0]) 16 rfl Tryd.underlying35 info107 rfl (by decide) (by decide) (.slice A7 L7.length c7) L7 [(⟨p, v⟩ : S107), ⟨v, q⟩] (some ⟨w4.heap.size, 0, none⟩) 2 2 (fun k => tg5 k = 7) (fun _ => False) rfl rfl (Kd.R_alloc hgr2.out _) hRR.out (fun x cs hx => by rw [k107_open hx]; exact k107_mkM _ _ _ _) (fun _ hk => hk.elim) (fun k hk => HF.out k (by simp at hk; omega)) (below_alloc (Below.refl _ _) _ |> fun hh => (hh.mono hbw5)) (by simp; omega) (by omega) ?_); intro v18 w18 hR18 hb18 hg18 hat18; obtain ⟨A8, c8, rfl⟩ := Kd.R_slice hR18; rw [show (L7 ++ [(⟨p, v⟩ : S107), ⟨v, q⟩]).length = L7.length + 2 by simp] at hR18 hat18 ⊢; have hm18 := (H6.out.alloc _).blk.grown hg18 hne; have y8 : w18.cell? ⟨b, 8, none⟩ = some (.slice A7 L7.length c7) := hm18.cell 8; have f8 := hm18.frozen 8))
        go_end0
        have S18 := (H6.out.alloc (.cells #[.int .i64 p, .int .i64 v, .int .i64 v, .int .i64 q] 107 (0, 0))).grown hg18 HR.out (by simp) hne hnm
        have S19 := S18.put7 (by simp) (.slice A8 (L7.length + 2) c8)
        have V19 := Kd.R_set hR18 S18.blk (by decide) 8 (.slice A8 (L7.length + 2) c8)
        rw [hpush.out] at V19
        refine ⟨rfl, (hbw4.trans hb18).setCell (p := ⟨b, 8, none⟩) hbb _, tg5, _, _, _, _, _, _, _, by
          rw [hsF.out]
          exact ⟨S19.blk, S19.bb, S19.be, S19.map, fun _ => S19.met (by simp), fun _ => S19.num (by simp), fun _ => S19.verts (by simp), fun _ => S19.order (by simp), fun _ => S19.tris (by simp), fun _ => V19, fun _ => by
            rw [HX.out]
            exact S19.steps (by simp)⟩⟩
end
end Go.Proofs.YtomknjmgcbbjlaaDoor.WW
