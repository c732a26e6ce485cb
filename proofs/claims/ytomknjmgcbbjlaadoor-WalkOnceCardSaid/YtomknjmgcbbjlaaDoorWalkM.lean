import Derived.Test.YtomknjmgcbbjlaaDoorWalkW
namespace Go.Proofs.YtomknjmgcbbjlaaDoor.WW
open Go Go.RowKit Go.Maps Go.WideMaps Go.Proofs.YtomknjmgcbbjlaaDoor.Mem Go.Proofs.YtomknjmgcbbjlaaDoor.PWlk Go.Proofs.YtomknjmgcbbjlaaDoorW.PrintWords Go.Proofs.YtomknjmgcbbjlaaDoorW.PrintLast Go.Proofs.YtomknjmgcbbjlaaDoorW.PrintMore
open Go.Proofs.YtomknjmgcbbjlaaDoor.MM (datE edgesU lawE zeroE kE kE_key wfE)
open Go.Proofs.YtomknjmgcbbjlaaDoor.WP (Wk fnd add)
set_option linter.unusedVariables false
set_option linter.unnecessarySimpa false
set_option linter.unusedSimpArgs false
set_option maxRecDepth 100000
section
variable {tg : Nat → Nat} {w w' : World} {base b : Nat} {A0 : Option Addr} {c0 : Nat} {A1 : Option Addr} {c1 : Nat} {P : List S46} {T : List S47} {e : Nat} {vm vn vv vo vt vg vs : Value} {s : Wk}
structure Fr (b : Nat) (tg tg' : Nat → Nat) (w w' : World) : Prop where
  size : w.heap.size ≤ w'.heap.size
  block : ∀ k, k < w.heap.size → k ≠ b → 8 < tg k → w'.heap[k]? = w.heap[k]?
  tag : ∀ k, k < w.heap.size → tg' k = tg k
theorem Fr.refl (b : Nat) (tg : Nat → Nat) (w : World) : Fr b tg tg w w := ⟨Nat.le_refl _, fun _ _ _ _ => rfl, fun _ _ => rfl⟩
theorem Fr.trans {b : Nat} {tg tg1 tg2 : Nat → Nat} {w w1 w2 : World} (h : Fr b tg tg1 w w1) (k : Fr b tg1 tg2 w1 w2) : Fr b tg tg2 w w2 :=
  ⟨Nat.le_trans h.size k.size, fun j hj hb ht => (k.block j (Nat.lt_of_lt_of_le hj h.size) hb (by rw [h.tag j hj]; exact ht)).trans (h.block j hj hb ht), fun j hj => (k.tag j (Nat.lt_of_lt_of_le hj h.size)).trans (h.tag j hj)⟩
theorem Fr.retag (b : Nat) (tg : Nat → Nat) (w : World) (i : Nat) : Fr b tg (fun k => if w.heap.size ≤ k then i else tg k) w w := ⟨Nat.le_refl _, fun _ _ _ _ => rfl, fun k hk => if_neg (by omega)⟩
theorem Fr.alloc {b : Nat} {tg tg1 : Nat → Nat} {w w1 : World} (h : Fr b tg tg1 w w1) (o : Obj) : Fr b tg tg1 w (w1.alloc o) :=
  ⟨Nat.le_trans h.size (by simp), fun j hj hb ht => (Below.heap_alloc w1 o j (Nat.lt_of_lt_of_le hj h.size)).trans (h.block j hj hb ht), h.tag⟩
theorem Fr.drew {b : Nat} {tg tg1 : Nat → Nat} {w w1 : World} (h : Fr b tg tg1 w w1) : Fr b tg tg1 w w1.drew := ⟨h.size, h.block, h.tag⟩
theorem Fr.head {b : Nat} {tg tg1 : Nat → Nat} {w w1 : World} (h : Fr b tg tg1 w w1) (i : Nat) (u : Value) : Fr b tg tg1 w (w1.setCell ⟨b, i, none⟩ u) :=
  ⟨by simpa [World.setCell] using h.size, fun j hj hb ht => (Below.heap_setCell w1 ⟨b, i, none⟩ u j hb).trans (h.block j hj hb ht), h.tag⟩
theorem Fr.row {b g : Nat} {tg tg1 : Nat → Nat} {w w1 : World} (h : Fr b tg tg1 w w1) (hg : tg1 g ≤ 8) (i : Nat) (u : Value) : Fr b tg tg1 w (w1.setCell ⟨g, i, none⟩ u) :=
  ⟨by simpa [World.setCell] using h.size, fun j hj hb ht => (Below.heap_setCell w1 ⟨g, i, none⟩ u j (fun e => by have e2 : j = g := e; have := h.tag j hj; rw [e2] at this ht; omega)).trans (h.block j hj hb ht), h.tag⟩
theorem Fr.grown {b : Nat} {tg tg1 : Nat → Nat} {w w1 w2 : World} {row : Option Nat} (h : Fr b tg tg1 w w1) (hg : w1.grownBy w2 row) (hr : ∀ k, row = some k → tg1 k ≤ 8) : Fr b tg tg1 w w2 :=
  ⟨Nat.le_trans h.size hg.size, fun j hj hb ht => (hg.block j (Nat.lt_of_lt_of_le hj h.size) (fun e => by have h1 := h.tag j hj; have h2 := hr j e.symm; omega)).trans (h.block j hj hb ht), h.tag⟩
theorem nin {j : Nat} : j ∉ ([] : List Nat) := by simp
theorem fnd_no {V : List Int} {v : Int} (h : v ∉ V) : fnd V v + 1 = 0 := by unfold fnd; rw [if_neg h]; rfl
theorem fnd_yes {V : List Int} {v : Int} (h : v ∈ V) : fnd V v + 1 > 0 := by unfold fnd; rw [if_pos h]; omega
set_option maxHeartbeats 1000000 in
theorem meet94 (h : St [] tg w base b A0 c0 A1 c1 P T e vm vn vv vo vt vg vs s) (v : Int) (hv0 : 0 ≤ v) (hv1 : v < P.length) (hl : s.V.length ≤ 100000) :
    Calls Tryd.prog 94 #[.pointer (some ⟨b, 0, none⟩), .int .i64 v] w fun en w' => en = .returned (.bool (decide (v ∈ s.V))) ∧ Below base w w' ∧ ∃ tg', Fr b tg tg' w w' ∧ ∃ vv', St [] tg' w' base b A0 c0 A1 c1 P T e vm vn vv' vo vt vg vs { s with V := add s.V v } := by
  obtain ⟨g, cap, rfl, hgb, hgl, cells, hgc⟩ := Kd.R_form (h.num nin) (by rw [numL_len]; omega)
  rw [numL_len] at h ⊢
  have hnum := h.num nin
  have hc := (Kd.R_celln 0 hnum v hv0 hv1)
  rw [numL_at hv0 hv1] at hc
  have x4 : w.cell? ⟨b, 4, none⟩ = some (.slice (some ⟨g, 0, none⟩) P.length cap) := h.blk.cell 4
  have x5 : w.cell? ⟨b, 5, none⟩ = some vv := h.blk.cell 5
  have p1 := eq_true hv0
  have p2 := eq_true hv1
  have hc1 := hc.1
  have hbl := h.blk.lt
  by_cases hm : v ∈ s.V
  · have hpos := fnd_yes hm
    have hadd : add s.V v = s.V := by unfold add; rw [if_pos hm]
    obtain ⟨f, hfe⟩ : ∃ f, f = fnd s.V v + 1 := ⟨_, rfl⟩
    rw [← hfe] at hc1 hpos
    have d1 : decide (f > 0) = true := decide_eq_true hpos
    have H := Lib.hid h
    clear hfe hc hnum h
    go_enter Tryd.func94, Tryd.ntmps94
    go_wp2_with fail
    go_ret
    exact ⟨by rw [decide_eq_true hm]; rfl, Below.refl _ _, _, Fr.refl _ _ _, _, by rw [hadd]; exact H.out⟩
  · rw [fnd_no hm] at hc1
    have hadd : add s.V v = s.V ++ [v] := by unfold add; rw [if_neg hm]
    have h4 := h.retag 4
    obtain ⟨tg1, htg⟩ : ∃ t, t = (fun k => if w.heap.size ≤ k then 4 else tg k) := ⟨_, rfl⟩
    rw [← htg] at h4
    have hF0 : Fr b tg tg1 w w := by rw [htg]; exact Fr.retag b tg w 4
    replace hF0 := Lib.hid hF0
    have hfr : ∀ k, w.heap.size ≤ k → tg1 k = 4 := fun k hk => by rw [htg]; exact if_pos hk
    obtain ⟨A5, c5, rfl⟩ := Kd.R_slice (h4.verts nin)
    have hne : some b ≠ (Value.slice A5 s.V.length c5).ownBlock := Kd.R_ne (h4.verts nin) h4.blk (by decide)
    have hrow := (h4.verts nin).1
    have hty := Kd.R_typed (h4.verts nin)
    have hnm : some e ≠ (Value.slice A5 s.V.length c5).ownBlock := fun ee => by
      obtain ⟨cs, hcs⟩ := hty e ee.symm
      exact h4.ne_map hcs rfl
    have h5 := h4.skip (sk' := [3, 4]) (by simp)
    have hng := (h4.num nin).1 g rfl
    have hverts := Lib.hid (h4.verts nin)
    have hnum1 := h4.num nin
    have hbw := h4.lt
    have H5 := Lib.hid h5
    have HN := Lib.hid hnum1
    have HF := Lib.hid hfr
    have HT := Lib.hid hty
    have HR := Lib.hid hrow
    have hbb := h.bb
    clear htg hc hnum h h4 h5 hnum1 hfr hty hrow
    go_enter Tryd.func94, Tryd.ntmps94
    go_wp2_with (first | (at_builtin; go_must (refine Kd.R_append (Kd.int .i64) (w0 := w) (W := w) base rfl (.tmp 17) (.tmp 19) 32 3 (.int .i64 0) 8 rfl Tryd.underlying32 info3 rfl (by decide) (by decide) (.slice A5 s.V.length c5) s.V v [.int .i64 v] (fun k => tg1 k = 4) (fun _ => False) rfl rfl rfl (fun _ hk => hk.elim) HF.out hverts.out (Below.refl _ _) (by omega) (by omega) ?_); intro v18 w18 hR18 hb18 hg18 hat18; obtain ⟨A6, c6, rfl⟩ := Kd.R_slice hR18; rw [show (s.V ++ [v]).length = s.V.length + 1 by simp] at hR18 hat18 ⊢; have hm18 := H5.out.blk.grown hg18 hne; have y4 : w18.cell? ⟨b, 4, none⟩ = some (.slice (some ⟨g, 0, none⟩) P.length cap) := hm18.cell 4; have y5 : w18.cell? ⟨b, 5, none⟩ = some (.slice A5 s.V.length c5) := hm18.cell 5; have f5 := hm18.frozen 5))
    have S18 := H5.out.grown hg18 HR.out (by simp) hne hnm
    have hF19 := (hF0.out.grown hg18 (fun k hk => by have := HR.out k hk; omega)).head 5 (.slice A6 (s.V.length + 1) c6)
    replace hF19 := Lib.hid hF19
    have S19 := S18.put4 (by simp) (.slice A6 (s.V.length + 1) c6)
    have N19 := Kd.R_set (Kd.R_grown HN.out hg18 (fun k hk ee => by have := HR.out k ee.symm; omega)) S18.blk (by decide) 5 (.slice A6 (s.V.length + 1) c6)
    have V19 := Kd.R_set hR18 S18.blk (by decide) 5 (.slice A6 (s.V.length + 1) c6)
    have hb19 := hb18.setCell (p := ⟨b, 5, none⟩) hbb (.slice A6 (s.V.length + 1) c6)
    generalize w18.setCell ⟨b, 5, none⟩ (.slice A6 (s.V.length + 1) c6) = w19 at *
    have z4 : w19.cell? ⟨b, 4, none⟩ = some (.slice (some ⟨g, 0, none⟩) P.length cap) := S19.blk.cell 4
    have z5 : w19.cell? ⟨b, 5, none⟩ = some (.slice A6 (s.V.length + 1) c6) := S19.blk.cell 5
    obtain ⟨zc, zf⟩ := Kd.R_celln 0 N19 v hv0 hv1
    have hgc19 := Kd.R_typed N19 g rfl
    replace S19 := Lib.hid S19
    replace N19 := Lib.hid N19
    replace V19 := Lib.hid V19
    replace hgc19 := Lib.hid hgc19
    replace hb19 := Lib.hid hb19
    clear x4 x5 y4 y5 f5 hm18 hc1 hR18 hb18 hg18 hat18 S18 HN HF HT HR H5 hverts hne hnm hgc hgl hbl
    generalize hlen : s.V.length + 1 = m at *
    replace hlen := Lib.hid hlen
    go_region
    go_wp2_with fail
    go_ret
    have S20 := (S19.out.far hgc19.out.choose_spec (by decide) (by rw [hng]; simp) v.toNat (.int .i64 m)).drew
    have N20 := Kd.R_drew (Kd.R_putg N19.out v (m : Int)).1
    have V20 := Kd.R_drew (Kd.R_far (p := ⟨g, v.toNat, none⟩) V19.out (fun k hk ee => by rw [ee, hng] at hk; cases hk) (.int .i64 (m : Int)))
    rw [← hlen.out, numL_set hv0 hv1 hm, ← hadd] at N20
    rw [← hadd] at V20
    rw [hlen.out] at N20
    refine ⟨by rw [decide_eq_false hm]; rfl, (hb19.out.setCell (p := ⟨g, v.toNat, none⟩) hgb _).drew, tg1, (hF19.out.row (by rw [hng]; decide) _ _).drew, _, S20.blk, S20.bb, S20.be, S20.map, fun _ => S20.met (by simp), fun _ => N20, fun _ => V20, fun _ => S20.order (by simp), fun _ => S20.tris (by simp), fun _ => S20.gates (by simp), fun _ => S20.steps (by simp)⟩
set_option maxHeartbeats 1000000 in
theorem step93 (h : St [] tg w base b A0 c0 A1 c1 P T e vm vn vv vo vt vg vs s) (k v : Int) (hl : s.S.length ≤ 1000000) :
    Calls Tryd.prog 93 #[.pointer (some ⟨b, 0, none⟩), .int .i64 k, .int .i64 v] w fun en w' => en = .returned (.tuple #[]) ∧ Below base w w' ∧ ∃ tg', Fr b tg tg' w w' ∧ ∃ vs', St [] tg' w' base b A0 c0 A1 c1 P T e vm vn vv vo vt vg vs' { s with S := s.S ++ [(k, v)] } := by
  have hbl := h.blk.lt
  have hbb := h.bb
  have h4 := h.retag 8
  obtain ⟨tg1, htg⟩ : ∃ t, t = (fun k => if w.heap.size ≤ k then 8 else tg k) := ⟨_, rfl⟩
  rw [← htg] at h4
  have hF0 : Fr b tg tg1 w w := by rw [htg]; exact Fr.retag b tg w 8
  replace hF0 := Lib.hid hF0
  have hfr : ∀ k, w.heap.size ≤ k → tg1 k = 8 := fun k hk => by rw [htg]; exact if_pos hk
  obtain ⟨A5, c5, rfl⟩ := Kd.R_slice (h4.steps nin)
  have x9 : w.cell? ⟨b, 9, none⟩ = some (.slice A5 (s.S.map to62).length c5) := h4.blk.cell 9
  obtain ⟨n5, hn5⟩ : ∃ n, n = (s.S.map to62).length := ⟨_, rfl⟩
  have hne : some b ≠ (Value.slice A5 (s.S.map to62).length c5).ownBlock := Kd.R_ne (h4.steps nin) h4.blk (by decide)
  have hrow := (h4.steps nin).1
  have hty := Kd.R_typed (h4.steps nin)
  have hnm : some e ≠ (Value.slice A5 (s.S.map to62).length c5).ownBlock := fun ee => by
    obtain ⟨cs, hcs⟩ := hty e ee.symm
    exact h4.ne_map hcs rfl
  have H5 := Lib.hid (h4.skip (sk' := [8]) (by simp))
  have hsteps := Lib.hid (h4.steps nin)
  have hbw := h4.lt
  have hl2 : (s.S.map to62).length ≤ 1000000 := by rw [List.length_map]; exact hl
  generalize hL : s.S.map to62 = L at *
  replace hL := Lib.hid hL
  have HF := Lib.hid hfr
  have HR := Lib.hid hrow
  clear htg h h4 hfr hty hrow hn5
  go_enter Tryd.func93, Tryd.ntmps93
  go_wp2_with (first | (at_builtin; go_must (refine Kd.R_append k62 (w0 := w) (W := w) base rfl (.tmp 10) (.tmp 14) 28 62 (.agg #[.int .i64 0, .int .i64 0]) 16 rfl Tryd.underlying28 info62 rfl (by decide) (by decide) (.slice A5 L.length c5) L ⟨k, v⟩ [.int .i64 k, .int .i64 v] (fun k => tg1 k = 8) (fun _ => False) rfl rfl (k62_mkM _ _ _ _) (fun _ hk => hk.elim) HF.out hsteps.out (Below.refl _ _) (by omega) (by omega) ?_); intro v18 w18 hR18 hb18 hg18 hat18; obtain ⟨A6, c6, rfl⟩ := Kd.R_slice hR18; rw [show (L ++ [(⟨k, v⟩ : S62)]).length = L.length + 1 by simp] at hR18 hat18 ⊢; have hm18 := H5.out.blk.grown hg18 hne; have y9 : w18.cell? ⟨b, 9, none⟩ = some (.slice A5 L.length c5) := hm18.cell 9; have f9 := hm18.frozen 9))
  go_end0
  have S18 := H5.out.grown hg18 HR.out (by simp) hne hnm
  have S19 := S18.put8 (by simp) (.slice A6 (L.length + 1) c6)
  have V19 := Kd.R_set hR18 S18.blk (by decide) 9 (.slice A6 (L.length + 1) c6)
  rw [show L ++ [(⟨k, v⟩ : S62)] = (s.S ++ [(k, v)]).map to62 by rw [List.map_append, hL.out]; rfl] at V19
  refine ⟨rfl, hb18.setCell (p := ⟨b, 9, none⟩) hbb _, tg1, (hF0.out.grown hg18 (fun k hk => by have := HR.out k hk; omega)).head _ _, _, S19.blk, S19.bb, S19.be, S19.map, fun _ => S19.met (by simp), fun _ => S19.num (by simp), fun _ => S19.verts (by simp), fun _ => S19.order (by simp), fun _ => S19.tris (by simp), fun _ => S19.gates (by simp), fun _ => V19⟩
set_option maxHeartbeats 2000000 in
theorem take95 (h : St [] tg w base b A0 c0 A1 c1 P T e vm vn vv vo vt vg vs s) (i : Nat) (hi : i < T.length) (x y z : Int) (hx : 0 ≤ x ∧ x < P.length) (hy : 0 ≤ y ∧ y < P.length) (hz : 0 ≤ z ∧ z < P.length) (hl : s.O.length ≤ 100000) (hl2 : s.T.length ≤ 100000) (hT : T.length ≤ 100000) (hV : s.V.length ≤ 100000) :
    Calls Tryd.prog 95 #[.pointer (some ⟨b, 0, none⟩), .int .i64 (i : Int), .agg #[.int .i64 x, .int .i64 y, .int .i64 z]] w fun en w' => en = .returned (.tuple #[]) ∧ Below base w w' ∧ ∃ tg', Fr b tg tg' w w' ∧ ∃ vo' vt', St [] tg' w' base b A0 c0 A1 c1 P T e vm vn vv vo' vt' vg vs { s with O := s.O ++ [i], T := s.T ++ [LK.map3 (fnd s.V) (x, y, z)] } := by
  obtain ⟨tgq, h, htgb, hF0⟩ : ∃ tg', St [] tg' w base b A0 c0 A1 c1 P T e vm vn vv vo vt vg vs s ∧ tg' w.heap.size = 9 ∧ Fr b tg tg' w w := ⟨_, h.retag 9, if_pos (Nat.le_refl _), Fr.retag b tg w 9⟩
  replace hF0 := Lib.hid hF0
  obtain ⟨gm, cm, rfl, hgmb, hgml, cellsm, hgmc⟩ := Kd.R_form (h.met nin) (by rw [metL_len]; omega)
  rw [metL_len] at h ⊢
  obtain ⟨gn, cn, rfl, hgnb, hgnl, cellsn, hgnc⟩ := Kd.R_form (h.num nin) (by rw [numL_len]; omega)
  rw [numL_len] at h ⊢
  have hbl := h.blk.lt
  have hbb := h.bb
  have hbw := h.lt
  have p1 : ((0 : Int) ≤ (i : Int)) = True := eq_true (by omega)
  have p2 : ((i : Int) < (T.length : Int)) = True := eq_true (by omega)
  have hgt : tgq gm = 2 := (h.met nin).1 gm rfl
  have hA := (h.alloc (.cells #[.int .i64 x, .int .i64 y, .int .i64 z] 47 (0, 0))).skip (sk' := [2]) (by simp)
  have hB := Blk.here w 47 #[.int .i64 x, .int .i64 y, .int .i64 z]
  have hMr := Kd.R_alloc (h.met nin) (.cells #[.int .i64 x, .int .i64 y, .int .i64 z] 47 (0, 0))
  have hb1 := (Below.refl base w).alloc (by omega) (.cells #[.int .i64 x, .int .i64 y, .int .i64 z] 47 (0, 0))
  have x3 : (w.alloc (.cells #[.int .i64 x, .int .i64 y, .int .i64 z] 47 (0, 0))).cell? ⟨b, 3, none⟩ = some (.slice (some ⟨gm, 0, none⟩) T.length cm) := hA.blk.cell 3
  obtain ⟨mc, mf⟩ := Kd.R_celln false hMr (i : Int) (by omega) (by omega)
  rw [metL_at hi, Int.toNat_natCast] at mc
  rw [Int.toNat_natCast] at mf
  have H := Lib.hid h
  clear h hgmc hgnc hgnl cellsn
  go_enter Tryd.func95, Tryd.ntmps95
  go_upto_region 1 with fail
  generalize hw1 : w.alloc (.cells #[.int .i64 x, .int .i64 y, .int .i64 z] 47 (0, 0)) = w1 at *
  generalize hgb : w.heap.size = gb at *
  have hgmc1 := Kd.R_typed hMr gm rfl
  have S2 := hA.far hgmc1.choose_spec (by decide) (by rw [hgt]; simp) i (.bool true)
  have M2 := (Kd.R_putg hMr (i : Int) true).1
  have hb2 := hb1.setCell (p := ⟨gm, i, none⟩) hgmb (.bool true)
  have B2 := hB.far (p := ⟨gm, i, none⟩) (show gb ≠ gm by omega) (.bool true)
  rw [Int.toNat_natCast, metL_set hi] at M2
  replace S2 := Lib.hid S2
  replace M2 := Lib.hid M2
  replace B2 := Lib.hid B2
  clear hgmc1 hMr hB hA hb1
  go_upto_region 2 with fail
  have hF2 : Hid (Fr b tg tgq w (w1.setCell ⟨gm, i, none⟩ (.bool true))) := Lib.hid (by rw [← hw1]; exact (hF0.out.alloc _).row (by rw [hgt]; decide) i (.bool true))
  generalize w1.setCell ⟨gm, i, none⟩ (.bool true) = w2 at *
  replace S2 := S2.out
  replace M2 := M2.out
  replace B2 := B2.out
  clear x3 mc mf
  obtain ⟨tg1, htg⟩ : ∃ t, t = (fun k => if w2.heap.size ≤ k then 5 else tgq k) := ⟨_, rfl⟩
  have S3 := S2.retag 5
  have M3 : Kd.bool.R 4 w2 base (fun k => tg1 k = 2) (.slice (some ⟨gm, 0, none⟩) T.length cm) (metL (s.O ++ [i]) T.length) := by rw [htg]; exact R_retag M2 5
  rw [← htg] at S3
  have hF3 : Fr b tgq tg1 w2 w2 := by rw [htg]; exact Fr.retag b tgq w2 5
  have hF4 := Lib.hid (hF2.out.trans hF3)
  clear hF3
  have htgb1 : tg1 gb = 9 := by rw [htg]; exact (if_neg (Nat.not_le.2 B2.lt)).trans htgb
  have hfr : ∀ k, w2.heap.size ≤ k → tg1 k = 5 := fun k hk => by rw [htg]; exact if_pos hk
  have hbw2 : base ≤ w2.heap.size := Nat.le_of_lt S3.lt
  obtain ⟨A5, c5, rfl⟩ := Kd.R_slice (S3.order (by simp))
  have hne : some b ≠ (Value.slice A5 (s.O.map fun i : Nat => (i : Int)).length c5).ownBlock := Kd.R_ne (S3.order (by simp)) S3.blk (by decide)
  have hrow := (S3.order (by simp)).1
  have hty := Kd.R_typed (S3.order (by simp))
  have hnm : some e ≠ (Value.slice A5 (s.O.map fun i : Nat => (i : Int)).length c5).ownBlock := fun ee => by
    obtain ⟨cs, hcs⟩ := hty e ee.symm
    exact S3.ne_map hcs rfl
  have hnb : some gb ≠ (Value.slice A5 (s.O.map fun i : Nat => (i : Int)).length c5).ownBlock := Kd.R_ne (S3.order (by simp)) B2 (by decide)
  have H5 := Lib.hid (S3.skip (sk' := [2, 5]) (by simp))
  have hord := Lib.hid (S3.order (by simp))
  have x6 : w2.cell? ⟨b, 6, none⟩ = some (.slice A5 (s.O.map fun i : Nat => (i : Int)).length c5) := S3.blk.cell 6
  have hLl : (s.O.map fun i : Nat => (i : Int)).length ≤ 100000 := by rw [List.length_map]; exact hl
  obtain ⟨L, hL⟩ : ∃ L, L = s.O.map fun i : Nat => (i : Int) := ⟨_, rfl⟩
  rw [← hL] at x6 hne hrow hty hnm hnb H5 hord hLl
  replace hL := Lib.hid hL
  replace M3 := Lib.hid M3
  have HF := Lib.hid hfr
  have HR := Lib.hid hrow
  have hb2h := Lib.hid hb2
  have B2h := Lib.hid B2
  clear htg S2 M2 S3 hfr hrow hty hb2 B2
  go_upto_region 3 with (first | (at_builtin; go_must (refine Kd.R_append (Kd.int .i64) (w0 := w2) (W := w2) base rfl (.tmp 16) (.tmp 18) 32 3 (.int .i64 0) 8 rfl Tryd.underlying32 info3 rfl (by decide) (by decide) (.slice A5 L.length c5) L (i : Int) [.int .i64 (i : Int)] (fun k => tg1 k = 5) (fun _ => False) rfl rfl rfl (fun _ hk => hk.elim) HF.out hord.out (Below.refl _ _) hbw2 (by omega) ?_); intro v18 w18 hR18 hb18 hg18 hat18; obtain ⟨A6, c6, rfl⟩ := Kd.R_slice hR18; rw [show (L ++ [(i : Int)]).length = L.length + 1 by simp] at hR18 hat18 ⊢; have hm18 := H5.out.blk.grown hg18 hne; have y6 : w18.cell? ⟨b, 6, none⟩ = some (.slice A5 L.length c5) := hm18.cell 6; have f6 := hm18.frozen 6))
  have S18 := H5.out.grown hg18 HR.out (by simp) hne hnm
  have S19 := S18.put5 (by simp) (.slice A6 (L.length + 1) c6)
  have M19 := Kd.R_set (Kd.R_grown M3.out hg18 (fun k hk ee => by have := HR.out k ee.symm; omega)) S18.blk (by decide) 6 (.slice A6 (L.length + 1) c6)
  have O19 := Kd.R_set hR18 S18.blk (by decide) 6 (.slice A6 (L.length + 1) c6)
  have hgbb : gb ≠ b := B2h.out.ne_ (S18.blk |> fun _ => H5.out.blk) (by decide)
  have B19 := (B2h.out.grown hg18 hnb).far (p := ⟨b, 6, none⟩) hgbb (.slice A6 (L.length + 1) c6)
  have hF19 := Lib.hid ((hF4.out.grown hg18 (fun k hk => by have := HR.out k hk; omega)).head 6 (.slice A6 (L.length + 1) c6))
  have hb19 := (hb2h.out.trans hb18).setCell (p := ⟨b, 6, none⟩) hbb (.slice A6 (L.length + 1) c6)
  generalize w18.setCell ⟨b, 6, none⟩ (.slice A6 (L.length + 1) c6) = w19 at *
  clear hg18 hat18 hR18 hb18 S18 hm18 y6 f6 x6 hb2h B2h M3 H5 hord hnb hne hnm HF HR
  obtain ⟨tg2, htg⟩ : ∃ t, t = (fun k => if w19.heap.size ≤ k then 6 else tg1 k) := ⟨_, rfl⟩
  have S20 := S19.retag 6
  have M20 : Kd.bool.R 4 w19 base (fun k => tg2 k = 2) (.slice (some ⟨gm, 0, none⟩) T.length cm) (metL (s.O ++ [i]) T.length) := by rw [htg]; exact R_retag M19 6
  have O20 : (Kd.int .i64).R 3 w19 base (fun k => tg2 k = 5) (.slice A6 (L.length + 1) c6) (L ++ [(i : Int)]) := by rw [htg]; exact R_retag O19 6
  rw [← htg] at S20
  have hF20 : Fr b tg1 tg2 w19 w19 := by rw [htg]; exact Fr.retag b tg1 w19 6
  have hF21 := Lib.hid (hF19.out.trans hF20).drew
  clear hF20
  have htgb2 : tg2 gb = 9 := by rw [htg]; exact (if_neg (Nat.not_le.2 B19.lt)).trans htgb1
  have hfr : ∀ k, w19.heap.size ≤ k → tg2 k = 6 := fun k hk => by rw [htg]; exact if_pos hk
  have hbw19 : base ≤ w19.heap.size := Nat.le_of_lt S20.lt
  obtain ⟨A7, c7, rfl⟩ := Kd.R_slice (S20.tris (by simp))
  have hne : some b ≠ (Value.slice A7 (s.T.map to47).length c7).ownBlock := Kd.R_ne (S20.tris (by simp)) S20.blk (by decide)
  have hrow := (S20.tris (by simp)).1
  have hty := Kd.R_typed (S20.tris (by simp))
  have hnm : some e ≠ (Value.slice A7 (s.T.map to47).length c7).ownBlock := fun ee => by
    obtain ⟨cs, hcs⟩ := hty e ee.symm
    exact S20.ne_map hcs rfl
  have x7 : w19.cell? ⟨b, 7, none⟩ = some (.slice A7 (s.T.map to47).length c7) := S20.blk.cell 7
  have x4 : w19.cell? ⟨b, 4, none⟩ = some (.slice (some ⟨gn, 0, none⟩) P.length cn) := S20.blk.cell 4
  have q0 : w19.cell? ⟨gb, 0, none⟩ = some (.int .i64 x) := B19.cell 0
  have q1 : w19.cell? ⟨gb, 1, none⟩ = some (.int .i64 y) := B19.cell 1
  have q2 : w19.cell? ⟨gb, 2, none⟩ = some (.int .i64 z) := B19.cell 2
  have hn20 := S20.num (by simp)
  have nx := (Kd.R_celln 0 hn20 x hx.1 hx.2).1
  have ny := (Kd.R_celln 0 hn20 y hy.1 hy.2).1
  have nz := (Kd.R_celln 0 hn20 z hz.1 hz.2).1
  rw [numL_at hx.1 hx.2] at nx
  rw [numL_at hy.1 hy.2] at ny
  rw [numL_at hz.1 hz.2] at nz
  have px0 := eq_true hx.1
  have px1 := eq_true hx.2
  have py0 := eq_true hy.1
  have py1 := eq_true hy.2
  have pz0 := eq_true hz.1
  have pz1 := eq_true hz.2
  have hfb : ∀ v, -1 ≤ fnd s.V v ∧ fnd s.V v ≤ 100000 := fun v => by
    unfold fnd
    split
    · have := List.idxOf_lt_length_of_mem (by assumption : v ∈ s.V); omega
    · omega
  have hbx := hfb x
  have hby := hfb y
  have hbz := hfb z
  have hLT : (s.T.map to47).length ≤ 100000 := by rw [List.length_map]; exact hl2
  obtain ⟨L7, hL7⟩ : ∃ L, L = s.T.map to47 := ⟨_, rfl⟩
  have hpush : L7 ++ [(⟨fnd s.V x, fnd s.V y, fnd s.V z⟩ : S47)] = (s.T ++ [LK.map3 (fnd s.V) (x, y, z)]).map to47 := by rw [List.map_append, ← hL7]; rfl
  have hO : L ++ [(i : Int)] = (s.O ++ [i]).map fun i : Nat => (i : Int) := by rw [List.map_append, ← hL.out]; rfl
  have H6 := Lib.hid (S20.skip (sk' := [2, 5, 6]) (by simp))
  have htri := Lib.hid (S20.tris (by simp))
  rw [← hL7] at x7 hne hrow hty hnm H6 htri hLT
  generalize hfx : fnd s.V x = fx at *
  generalize hfy : fnd s.V y = fy at *
  generalize hfz : fnd s.V z = fz at *
  have wx : IntKind.i64.wrap (fx + 1 - 1) = fx := by rw [i64_w]; unfold wrap64; omega
  have wy : IntKind.i64.wrap (fy + 1 - 1) = fy := by rw [i64_w]; unfold wrap64; omega
  have wz : IntKind.i64.wrap (fz + 1 - 1) = fz := by rw [i64_w]; unfold wrap64; omega
  generalize fx + 1 = gx at *
  generalize fy + 1 = gy at *
  generalize fz + 1 = gz at *
  replace hpush := Lib.hid hpush
  replace hO := Lib.hid hO
  replace hL7 := Lib.hid hL7
  replace M20 := Lib.hid M20
  replace O20 := Lib.hid O20
  replace hb19 := Lib.hid hb19
  have HF := Lib.hid hfr
  have HR := Lib.hid hrow
  have hx' := Lib.hid hx
  have hlt3 : b < w19.heap.size ∧ gb < w19.heap.size ∧ gn < w19.heap.size := ⟨S19.blk.lt, B19.lt, Kd.R_lt hn20 gn rfl⟩
  have hgnb' : gn ≠ b := by
    obtain ⟨cs, hcs⟩ := Kd.R_typed hn20 gn rfl
    exact (show Blk w19 gn 3 cs from hcs).ne_ S19.blk (by decide)
  have hnb7 : some gb ≠ (Value.slice A7 L7.length c7).ownBlock := fun ee => by
    have h1 : tg2 gb = 6 := hrow gb ee.symm
    omega
  have hn3 : ∀ k, k = b ∨ k = gb ∨ k = gn → some k ≠ (Value.slice A7 L7.length c7).ownBlock := by
    rintro k (rfl | rfl | rfl)
    · exact hne
    · intro ee
      obtain ⟨cs, hcs⟩ := hty _ ee.symm
      exact hnb7 ee
    · intro ee
      have h1 : tg2 _ = 6 := hrow _ ee.symm
      have h2 : tg2 _ = 3 := hn20.1 _ rfl
      exact absurd (h2.symm.trans h1) (by decide)
  clear htg S19 S20 M19 O19 hfr hrow hty hn20 hfb B19 hfx hfy hfz hx hy hz hbx hby hbz
  have htri' := Lib.hid (Kd.R_drew htri.out)
  have HF' : Hid (∀ k, w19.drew.heap.size ≤ k → tg2 k = 6) := HF
  have hbw19' : base ≤ w19.drew.heap.size := hbw19
  have S20' := H6.out.drew
  replace S20' := Lib.hid S20'
  have KS : ∀ w' : World, (∀ k, k = b ∨ k = gb ∨ k = gn → w'.heap[k]? = w19.heap[k]?) → w'.cell? ⟨b, 7, none⟩ = some (.slice A7 L7.length c7) ∧ w'.cell? ⟨b, 4, none⟩ = some (.slice (some ⟨gn, 0, none⟩) P.length cn) ∧ w'.cell? ⟨gb, 0, none⟩ = some (.int .i64 x) ∧ w'.cell? ⟨gb, 1, none⟩ = some (.int .i64 y) ∧ w'.cell? ⟨gb, 2, none⟩ = some (.int .i64 z) ∧ w'.cell? ⟨gn, x.toNat, none⟩ = some (.int .i64 gx) ∧ w'.cell? ⟨gn, y.toNat, none⟩ = some (.int .i64 gy) ∧ w'.cell? ⟨gn, z.toNat, none⟩ = some (.int .i64 gz) := fun w' hk => by
    have hc : ∀ (k o : Nat), (k = b ∨ k = gb ∨ k = gn) → w'.cell? ⟨k, o, none⟩ = w19.cell? ⟨k, o, none⟩ := fun k o h => by simp [World.cell?, hk k h]
    exact ⟨(hc _ _ (.inl rfl)).trans x7, (hc _ _ (.inl rfl)).trans x4, (hc _ _ (.inr (.inl rfl))).trans q0, (hc _ _ (.inr (.inl rfl))).trans q1, (hc _ _ (.inr (.inl rfl))).trans q2, (hc _ _ (.inr (.inr rfl))).trans nx, (hc _ _ (.inr (.inr rfl))).trans ny, (hc _ _ (.inr (.inr rfl))).trans nz⟩
  have hlts : b < w19.heap.size ∧ gb < w19.heap.size ∧ gn < w19.heap.size := hlt3
  have KA := KS (w19.drew.alloc (.cells #[.int .i64 fx, .int .i64 fy, .int .i64 fz] 47 (0, 0))) (fun k hk => Below.heap_alloc w19.drew _ k (by show k < w19.heap.size; omega))
  have K0 := KS w19.drew (fun k hk => rfl)
  have hng : ∀ k, k = b ∨ k = gb ∨ k = gn → some k ≠ (Value.slice A7 L7.length c7).ownBlock := hn3
  replace KS := Lib.hid KS
  replace hng := Lib.hid hng
  replace KA := Lib.hid KA
  replace K0 := Lib.hid K0
  clear x7 x4 q0 q1 q2 nx ny nz hn3 hlt3
  refine start_ (n := 38) (S := fun w' => w'.cell? ⟨b, 7, none⟩ = some (.slice A7 L7.length c7) ∧ w'.cell? ⟨b, 4, none⟩ = some (.slice (some ⟨gn, 0, none⟩) P.length cn) ∧ w'.cell? ⟨gb, 0, none⟩ = some (.int .i64 x) ∧ w'.cell? ⟨gb, 1, none⟩ = some (.int .i64 y) ∧ w'.cell? ⟨gb, 2, none⟩ = some (.int .i64 z) ∧ w'.cell? ⟨gn, x.toNat, none⟩ = some (.int .i64 gx) ∧ w'.cell? ⟨gn, y.toNat, none⟩ = some (.int .i64 gy) ∧ w'.cell? ⟨gn, z.toNat, none⟩ = some (.int .i64 gz)) (ds := [37]) #[false, false, false, false, false, false, false, false, false, false, false, false, false, false, false, false, false, false, false, false, false, false, false, false, false, false, false, false, false, false, false, false, false, false, false, false, false, false] (by kernel_rfl) rfl rfl K0.out (fun hHeld => ?_)
  refine pure_ (i := 0) (N := some 22) (v := ?_) (a' := ?_) #[true, false, false, false, false, false, false, false, false, false, false, false, false, false, false, false, false, false, false, false, false, false, false, false, false, false, false, false, false, false, false, false, false, false, false, false, false, false] rfl rfl (by kernel_rfl) (fun _ _ _ h => h) (Or.inl ⟨by rfl, ?_⟩) ?_ ?_
  rotate_left
  · intro w'
    go_simp
    with_reducible rfl
  rotate_left
  · simp only [Act.put, List.setIfInBounds_toArray, List.set_cons_zero, List.set_cons_succ, i64_w, i32_w]
    rfl
  refine pure_ (i := 1) (N := some 23) (v := ?_) (a' := ?_) #[true, true, false, false, false, false, false, false, false, false, false, false, false, false, false, false, false, false, false, false, false, false, false, false, false, false, false, false, false, false, false, false, false, false, false, false, false, false] rfl rfl (by kernel_rfl) (fun _ _ _ h => h) (Or.inl ⟨by rfl, ?_⟩) ?_ ?_
  rotate_left
  · intro w'
    go_simp
    with_reducible rfl
  rotate_left
  · simp only [Act.put, List.setIfInBounds_toArray, List.set_cons_zero, List.set_cons_succ, i64_w, i32_w]
    rfl
  refine pure_ (i := 2) (N := some 24) (v := ?_) (a' := ?_) #[true, true, true, false, false, false, false, false, false, false, false, false, false, false, false, false, false, false, false, false, false, false, false, false, false, false, false, false, false, false, false, false, false, false, false, false, false, false] rfl rfl (by kernel_rfl) (fun _ _ _ h => h) (Or.inl ⟨by rfl, ?_⟩) ?_ ?_
  rotate_left
  · intro w'
    go_simp
    with_reducible rfl
  rotate_left
  · simp only [Act.put, List.setIfInBounds_toArray, List.set_cons_zero, List.set_cons_succ, i64_w, i32_w]
    rfl
  refine pure_ (i := 3) (N := some 25) (v := ?_) (a' := ?_) #[true, true, true, true, false, false, false, false, false, false, false, false, false, false, false, false, false, false, false, false, false, false, false, false, false, false, false, false, false, false, false, false, false, false, false, false, false, false] rfl rfl (by kernel_rfl) (fun _ _ _ h => h) (Or.inl ⟨by rfl, ?_⟩) ?_ ?_
  rotate_left
  · intro w'
    go_simp
    with_reducible rfl
  rotate_left
  · simp only [Act.put, List.setIfInBounds_toArray, List.set_cons_zero, List.set_cons_succ, i64_w, i32_w]
    rfl
  refine take_ (i := 4) (N := some 26) (v := ?_) (a' := ?_) #[true, true, true, true, true, false, false, false, false, false, false, false, false, false, false, false, false, false, false, false, false, false, false, false, false, false, false, false, false, false, false, false, false, false, false, false, false, false] rfl rfl (by kernel_rfl) (fun _ _ _ h => h) (Or.inl ⟨by rfl, ?_⟩) hHeld ?_ ?_
  rotate_left
  · rintro w' ⟨s0, s1, s2, s3, s4, s5, s6, s7⟩
    go_simp
    with_reducible rfl
  rotate_left
  · simp only [Act.put, List.setIfInBounds_toArray, List.set_cons_zero, List.set_cons_succ, i64_w, i32_w]
    rfl
  refine pure_ (i := 5) (N := some 27) (v := ?_) (a' := ?_) #[true, true, true, true, true, true, false, false, false, false, false, false, false, false, false, false, false, false, false, false, false, false, false, false, false, false, false, false, false, false, false, false, false, false, false, false, false, false] rfl rfl (by kernel_rfl) (fun _ _ _ h => h) (Or.inl ⟨by rfl, ?_⟩) ?_ ?_
  rotate_left
  · intro w'
    go_simp
    with_reducible rfl
  rotate_left
  · simp only [Act.put, List.setIfInBounds_toArray, List.set_cons_zero, List.set_cons_succ, i64_w, i32_w]
    rfl
  refine pure_ (i := 6) (N := some 28) (v := ?_) (a' := ?_) #[true, true, true, true, true, true, true, false, false, false, false, false, false, false, false, false, false, false, false, false, false, false, false, false, false, false, false, false, false, false, false, false, false, false, false, false, false, false] rfl rfl (by kernel_rfl) (fun _ _ _ h => h) (Or.inl ⟨by rfl, ?_⟩) ?_ ?_
  rotate_left
  · intro w'
    go_simp
    with_reducible rfl
  rotate_left
  · simp only [Act.put, List.setIfInBounds_toArray, List.set_cons_zero, List.set_cons_succ, i64_w, i32_w]
    rfl
  refine pure_ (i := 7) (N := some 29) (v := ?_) (a' := ?_) #[true, true, true, true, true, true, true, true, false, false, false, false, false, false, false, false, false, false, false, false, false, false, false, false, false, false, false, false, false, false, false, false, false, false, false, false, false, false] rfl rfl (by kernel_rfl) (fun _ _ _ h => h) (Or.inl ⟨by rfl, ?_⟩) ?_ ?_
  rotate_left
  · intro w'
    go_simp
    with_reducible rfl
  rotate_left
  · simp only [Act.put, List.setIfInBounds_toArray, List.set_cons_zero, List.set_cons_succ, i64_w, i32_w]
    rfl
  refine take_ (i := 8) (N := some 30) (v := ?_) (a' := ?_) #[true, true, true, true, true, true, true, true, true, false, false, false, false, false, false, false, false, false, false, false, false, false, false, false, false, false, false, false, false, false, false, false, false, false, false, false, false, false] rfl rfl (by kernel_rfl) (fun _ _ _ h => h) (Or.inl ⟨by rfl, ?_⟩) hHeld ?_ ?_
  rotate_left
  · rintro w' ⟨s0, s1, s2, s3, s4, s5, s6, s7⟩
    go_simp
    with_reducible rfl
  rotate_left
  · simp only [Act.put, List.setIfInBounds_toArray, List.set_cons_zero, List.set_cons_succ, i64_w, i32_w]
    rfl
  refine pure_ (i := 9) (N := some 31) (v := ?_) (a' := ?_) #[true, true, true, true, true, true, true, true, true, true, false, false, false, false, false, false, false, false, false, false, false, false, false, false, false, false, false, false, false, false, false, false, false, false, false, false, false, false] rfl rfl (by kernel_rfl) (fun _ _ _ h => h) (Or.inl ⟨by rfl, ?_⟩) ?_ ?_
  rotate_left
  · intro w'
    go_simp
    with_reducible rfl
  rotate_left
  · simp only [Act.put, List.setIfInBounds_toArray, List.set_cons_zero, List.set_cons_succ, i64_w, i32_w]
    rfl
  refine take_ (i := 10) (N := some 32) (v := ?_) (a' := ?_) #[true, true, true, true, true, true, true, true, true, true, true, false, false, false, false, false, false, false, false, false, false, false, false, false, false, false, false, false, false, false, false, false, false, false, false, false, false, false] rfl rfl (by kernel_rfl) (fun _ _ _ h => h) (Or.inl ⟨by rfl, ?_⟩) hHeld ?_ ?_
  rotate_left
  · rintro w' ⟨s0, s1, s2, s3, s4, s5, s6, s7⟩
    go_simp
    with_reducible rfl
  rotate_left
  · simp only [Act.put, List.setIfInBounds_toArray, List.set_cons_zero, List.set_cons_succ, i64_w, i32_w]
    rfl
  refine pure_ (i := 11) (N := some 33) (v := ?_) (a' := ?_) #[true, true, true, true, true, true, true, true, true, true, true, true, false, false, false, false, false, false, false, false, false, false, false, false, false, false, false, false, false, false, false, false, false, false, false, false, false, false] rfl rfl (by kernel_rfl) (fun _ _ _ h => h) (Or.inl ⟨by rfl, ?_⟩) ?_ ?_
  rotate_left
  · intro w'
    go_simp
    with_reducible rfl
  rotate_left
  · simp only [Act.put, List.setIfInBounds_toArray, List.set_cons_zero, List.set_cons_succ, i64_w, i32_w]
    rfl
  refine take_ (i := 12) (N := some 34) (v := ?_) (a' := ?_) #[true, true, true, true, true, true, true, true, true, true, true, true, true, false, false, false, false, false, false, false, false, false, false, false, false, false, false, false, false, false, false, false, false, false, false, false, false, false] rfl rfl (by kernel_rfl) (fun _ _ _ h => h) (Or.inl ⟨by rfl, ?_⟩) hHeld ?_ ?_
  rotate_left
  · rintro w' ⟨s0, s1, s2, s3, s4, s5, s6, s7⟩
    go_simp
    with_reducible rfl
  rotate_left
  · simp only [Act.put, List.setIfInBounds_toArray, List.set_cons_zero, List.set_cons_succ, i64_w, i32_w]
    rfl
  refine pure_ (i := 13) (N := some 35) (v := ?_) (a' := ?_) #[true, true, true, true, true, true, true, true, true, true, true, true, true, true, false, false, false, false, false, false, false, false, false, false, false, false, false, false, false, false, false, false, false, false, false, false, false, false] rfl rfl (by kernel_rfl) (fun _ _ _ h => h) (Or.inl ⟨by rfl, ?_⟩) ?_ ?_
  rotate_left
  · intro w'
    go_simp
    with_reducible rfl
  rotate_left
  · simp only [Act.put, List.setIfInBounds_toArray, List.set_cons_zero, List.set_cons_succ, i64_w, i32_w]
    rfl
  refine pure_ (i := 14) (N := some 36) (v := ?_) (a' := ?_) #[true, true, true, true, true, true, true, true, true, true, true, true, true, true, true, false, false, false, false, false, false, false, false, false, false, false, false, false, false, false, false, false, false, false, false, false, false, false] rfl rfl (by kernel_rfl) (fun _ _ _ h => h) (Or.inl ⟨by rfl, ?_⟩) ?_ ?_
  rotate_left
  · intro w'
    go_simp
    with_reducible rfl
  rotate_left
  · simp only [Act.put, List.setIfInBounds_toArray, List.set_cons_zero, List.set_cons_succ, i64_w, i32_w]
    rfl
  refine pure_ (i := 15) (N := some 37) (v := ?_) (a' := ?_) #[true, true, true, true, true, true, true, true, true, true, true, true, true, true, true, true, false, false, false, false, false, false, false, false, false, false, false, false, false, false, false, false, false, false, false, false, false, false] rfl rfl (by kernel_rfl) (fun _ _ _ h => h) (Or.inl ⟨by rfl, ?_⟩) ?_ ?_
  rotate_left
  · intro w'
    go_simp
    with_reducible rfl
  rotate_left
  · simp only [Act.put, List.setIfInBounds_toArray, List.set_cons_zero, List.set_cons_succ, i64_w, i32_w]
    rfl
  refine pure_ (i := 16) (N := some 38) (v := ?_) (a' := ?_) #[true, true, true, true, true, true, true, true, true, true, true, true, true, true, true, true, true, false, false, false, false, false, false, false, false, false, false, false, false, false, false, false, false, false, false, false, false, false] rfl rfl (by kernel_rfl) (fun _ _ _ h => h) (Or.inl ⟨by rfl, ?_⟩) ?_ ?_
  rotate_left
  · intro w'
    go_simp
    with_reducible rfl
  rotate_left
  · simp only [Act.put, List.setIfInBounds_toArray, List.set_cons_zero, List.set_cons_succ, i64_w, i32_w]
    rfl
  refine take_ (i := 17) (N := some 39) (v := ?_) (a' := ?_) #[true, true, true, true, true, true, true, true, true, true, true, true, true, true, true, true, true, true, false, false, false, false, false, false, false, false, false, false, false, false, false, false, false, false, false, false, false, false] rfl rfl (by kernel_rfl) (fun _ _ _ h => h) (Or.inl ⟨by rfl, ?_⟩) hHeld ?_ ?_
  rotate_left
  · rintro w' ⟨s0, s1, s2, s3, s4, s5, s6, s7⟩
    go_simp
    with_reducible rfl
  rotate_left
  · simp only [Act.put, List.setIfInBounds_toArray, List.set_cons_zero, List.set_cons_succ, i64_w, i32_w]
    rfl
  refine pure_ (i := 18) (N := some 40) (v := ?_) (a' := ?_) #[true, true, true, true, true, true, true, true, true, true, true, true, true, true, true, true, true, true, true, false, false, false, false, false, false, false, false, false, false, false, false, false, false, false, false, false, false, false] rfl rfl (by kernel_rfl) (fun _ _ _ h => h) (Or.inl ⟨by rfl, ?_⟩) ?_ ?_
  rotate_left
  · intro w'
    go_simp
    with_reducible rfl
  rotate_left
  · simp only [Act.put, List.setIfInBounds_toArray, List.set_cons_zero, List.set_cons_succ, i64_w, i32_w]
    rfl
  refine take_ (i := 19) (N := some 41) (v := ?_) (a' := ?_) #[true, true, true, true, true, true, true, true, true, true, true, true, true, true, true, true, true, true, true, true, false, false, false, false, false, false, false, false, false, false, false, false, false, false, false, false, false, false] rfl rfl (by kernel_rfl) (fun _ _ _ h => h) (Or.inl ⟨by rfl, ?_⟩) hHeld ?_ ?_
  rotate_left
  · rintro w' ⟨s0, s1, s2, s3, s4, s5, s6, s7⟩
    go_simp
    with_reducible rfl
  rotate_left
  · simp only [Act.put, List.setIfInBounds_toArray, List.set_cons_zero, List.set_cons_succ, i64_w, i32_w]
    rfl
  refine pure_ (i := 20) (N := some 42) (v := ?_) (a' := ?_) #[true, true, true, true, true, true, true, true, true, true, true, true, true, true, true, true, true, true, true, true, true, false, false, false, false, false, false, false, false, false, false, false, false, false, false, false, false, false] rfl rfl (by kernel_rfl) (fun _ _ _ h => h) (Or.inl ⟨by rfl, ?_⟩) ?_ ?_
  rotate_left
  · intro w'
    go_simp
    with_reducible rfl
  rotate_left
  · simp only [Act.put, List.setIfInBounds_toArray, List.set_cons_zero, List.set_cons_succ, i64_w, i32_w]
    rfl
  refine take_ (i := 21) (N := some 43) (v := ?_) (a' := ?_) #[true, true, true, true, true, true, true, true, true, true, true, true, true, true, true, true, true, true, true, true, true, true, false, false, false, false, false, false, false, false, false, false, false, false, false, false, false, false] rfl rfl (by kernel_rfl) (fun _ _ _ h => h) (Or.inl ⟨by rfl, ?_⟩) hHeld ?_ ?_
  rotate_left
  · rintro w' ⟨s0, s1, s2, s3, s4, s5, s6, s7⟩
    go_simp
    with_reducible rfl
  rotate_left
  · simp only [Act.put, List.setIfInBounds_toArray, List.set_cons_zero, List.set_cons_succ, i64_w, i32_w]
    rfl
  refine pure_ (i := 22) (N := some 44) (v := ?_) (a' := ?_) #[true, true, true, true, true, true, true, true, true, true, true, true, true, true, true, true, true, true, true, true, true, true, true, false, false, false, false, false, false, false, false, false, false, false, false, false, false, false] rfl rfl (by kernel_rfl) (fun _ _ _ h => h) (Or.inl ⟨by rfl, ?_⟩) ?_ ?_
  rotate_left
  · intro w'
    go_simp
    with_reducible rfl
  rotate_left
  · simp only [Act.put, List.setIfInBounds_toArray, List.set_cons_zero, List.set_cons_succ, i64_w, i32_w]
    rfl
  refine pure_ (i := 23) (N := some 45) (v := ?_) (a' := ?_) #[true, true, true, true, true, true, true, true, true, true, true, true, true, true, true, true, true, true, true, true, true, true, true, true, false, false, false, false, false, false, false, false, false, false, false, false, false, false] rfl rfl (by kernel_rfl) (fun _ _ _ h => h) (Or.inl ⟨by rfl, ?_⟩) ?_ ?_
  rotate_left
  · intro w'
    go_simp
    with_reducible rfl
  rotate_left
  · simp only [Act.put, List.setIfInBounds_toArray, List.set_cons_zero, List.set_cons_succ, i64_w, i32_w]
    rfl
  refine pure_ (i := 24) (N := some 46) (v := ?_) (a' := ?_) #[true, true, true, true, true, true, true, true, true, true, true, true, true, true, true, true, true, true, true, true, true, true, true, true, true, false, false, false, false, false, false, false, false, false, false, false, false, false] rfl rfl (by kernel_rfl) (fun _ _ _ h => h) (Or.inl ⟨by rfl, ?_⟩) ?_ ?_
  rotate_left
  · intro w'
    go_simp
    with_reducible rfl
  rotate_left
  · simp only [Act.put, List.setIfInBounds_toArray, List.set_cons_zero, List.set_cons_succ, i64_w, i32_w]
    rfl
  refine pure_ (i := 25) (N := some 47) (v := ?_) (a' := ?_) #[true, true, true, true, true, true, true, true, true, true, true, true, true, true, true, true, true, true, true, true, true, true, true, true, true, true, false, false, false, false, false, false, false, false, false, false, false, false] rfl rfl (by kernel_rfl) (fun _ _ _ h => h) (Or.inl ⟨by rfl, ?_⟩) ?_ ?_
  rotate_left
  · intro w'
    go_simp
    with_reducible rfl
  rotate_left
  · simp only [Act.put, List.setIfInBounds_toArray, List.set_cons_zero, List.set_cons_succ, i64_w, i32_w]
    rfl
  refine take_ (i := 26) (N := some 48) (v := ?_) (a' := ?_) #[true, true, true, true, true, true, true, true, true, true, true, true, true, true, true, true, true, true, true, true, true, true, true, true, true, true, true, false, false, false, false, false, false, false, false, false, false, false] rfl rfl (by kernel_rfl) (fun _ _ _ h => h) (Or.inl ⟨by rfl, ?_⟩) hHeld ?_ ?_
  rotate_left
  · rintro w' ⟨s0, s1, s2, s3, s4, s5, s6, s7⟩
    go_simp
    with_reducible rfl
  rotate_left
  · simp only [Act.put, List.setIfInBounds_toArray, List.set_cons_zero, List.set_cons_succ, i64_w, i32_w]
    rfl
  refine pure_ (i := 27) (N := some 49) (v := ?_) (a' := ?_) #[true, true, true, true, true, true, true, true, true, true, true, true, true, true, true, true, true, true, true, true, true, true, true, true, true, true, true, true, false, false, false, false, false, false, false, false, false, false] rfl rfl (by kernel_rfl) (fun _ _ _ h => h) (Or.inl ⟨by rfl, ?_⟩) ?_ ?_
  rotate_left
  · intro w'
    go_simp
    with_reducible rfl
  rotate_left
  · simp only [Act.put, List.setIfInBounds_toArray, List.set_cons_zero, List.set_cons_succ, i64_w, i32_w]
    rfl
  refine take_ (i := 28) (N := some 50) (v := ?_) (a' := ?_) #[true, true, true, true, true, true, true, true, true, true, true, true, true, true, true, true, true, true, true, true, true, true, true, true, true, true, true, true, true, false, false, false, false, false, false, false, false, false] rfl rfl (by kernel_rfl) (fun _ _ _ h => h) (Or.inl ⟨by rfl, ?_⟩) hHeld ?_ ?_
  rotate_left
  · rintro w' ⟨s0, s1, s2, s3, s4, s5, s6, s7⟩
    go_simp
    with_reducible rfl
  rotate_left
  · simp only [Act.put, List.setIfInBounds_toArray, List.set_cons_zero, List.set_cons_succ, i64_w, i32_w]
    rfl
  refine pure_ (i := 29) (N := some 51) (v := ?_) (a' := ?_) #[true, true, true, true, true, true, true, true, true, true, true, true, true, true, true, true, true, true, true, true, true, true, true, true, true, true, true, true, true, true, false, false, false, false, false, false, false, false] rfl rfl (by kernel_rfl) (fun _ _ _ h => h) (Or.inl ⟨by rfl, ?_⟩) ?_ ?_
  rotate_left
  · intro w'
    go_simp
    with_reducible rfl
  rotate_left
  · simp only [Act.put, List.setIfInBounds_toArray, List.set_cons_zero, List.set_cons_succ, i64_w, i32_w]
    rfl
  refine take_ (i := 30) (N := some 52) (v := ?_) (a' := ?_) #[true, true, true, true, true, true, true, true, true, true, true, true, true, true, true, true, true, true, true, true, true, true, true, true, true, true, true, true, true, true, true, false, false, false, false, false, false, false] rfl rfl (by kernel_rfl) (fun _ _ _ h => h) (Or.inl ⟨by rfl, ?_⟩) hHeld ?_ ?_
  rotate_left
  · rintro w' ⟨s0, s1, s2, s3, s4, s5, s6, s7⟩
    go_simp
    with_reducible rfl
  rotate_left
  · simp only [Act.put, List.setIfInBounds_toArray, List.set_cons_zero, List.set_cons_succ, i64_w, i32_w]
    rfl
  refine pure_ (i := 31) (N := some 53) (v := ?_) (a' := ?_) #[true, true, true, true, true, true, true, true, true, true, true, true, true, true, true, true, true, true, true, true, true, true, true, true, true, true, true, true, true, true, true, true, false, false, false, false, false, false] rfl rfl (by kernel_rfl) (fun _ _ _ h => h) (Or.inl ⟨by rfl, ?_⟩) ?_ ?_
  rotate_left
  · intro w'
    go_simp
    with_reducible rfl
  rotate_left
  · simp only [Act.put, List.setIfInBounds_toArray, List.set_cons_zero, List.set_cons_succ, i64_w, i32_w]
    rfl
  refine pure_ (i := 32) (N := some 54) (v := ?_) (a' := ?_) #[true, true, true, true, true, true, true, true, true, true, true, true, true, true, true, true, true, true, true, true, true, true, true, true, true, true, true, true, true, true, true, true, true, false, false, false, false, false] rfl rfl (by kernel_rfl) (fun _ _ _ h => h) (Or.inl ⟨by rfl, ?_⟩) ?_ ?_
  rotate_left
  · intro w'
    go_simp
    with_reducible rfl
  rotate_left
  · simp only [Act.put, List.setIfInBounds_toArray, List.set_cons_zero, List.set_cons_succ, i64_w, i32_w]
    rfl
  refine one_ (i := 33) (N := (some 55)) #[true, true, true, true, true, true, true, true, true, true, true, true, true, true, true, true, true, true, true, true, true, true, true, true, true, true, true, true, true, true, true, true, true, true, false, false, false, false] rfl rfl (by kernel_rfl) (by decide) (fun K hK => ?_)
  refine value_ (w1 := ?_) (v := ?_) (by rfl) rfl ?_ ?_
  rotate_left 2
  · go_simp
    constructor
    · rfl
    · rfl
  refine hK.out _ _ KA.out (fun hHeld => ?_)
  clear hK K
  refine norm_ (a' := ?_) ?_ ?_
  rotate_left
  · show Act.put _ (some 55) _ = _
    simp only [Act.put, List.setIfInBounds_toArray, List.set_cons_zero, List.set_cons_succ, i64_w, i32_w]
    rfl
  refine one_ (i := 34) (N := (some 56)) #[true, true, true, true, true, true, true, true, true, true, true, true, true, true, true, true, true, true, true, true, true, true, true, true, true, true, true, true, true, true, true, true, true, true, true, false, false, false] rfl rfl (by kernel_rfl) (by decide) (fun K hK => ?_)
  refine Kd.R_append_step k47 (w0 := w19.drew) (W := w19.drew) base (by rfl) (.tmp 26) (.tmp 55) 23 47 (.agg #[.int .i64 0, .int .i64 0, .int .i64 0]) 24 rfl Tryd.underlying23 info47 rfl (by decide) (by decide) (.slice A7 L7.length c7) L7 ⟨fx, fy, fz⟩ [.int .i64 fx, .int .i64 fy, .int .i64 fz] (fun k => tg2 k = 6) (fun _ => False) (by rfl) (by rfl) (k47_mkM _ _ _ _) (fun _ hk => hk.elim) HF'.out htri'.out (Below.refl _ _) hbw19' (by omega) ?_
  intro v18 w18 hR18 hb18 hg18 hat18
  obtain ⟨A8, c8, rfl⟩ := Kd.R_slice hR18
  rw [show (L7 ++ [(⟨fx, fy, fz⟩ : S47)]).length = L7.length + 1 by simp] at hR18 hat18 ⊢
  have hm18 := S20'.out.blk.grown hg18 hne
  have y7 : w18.cell? ⟨b, 7, none⟩ = some (.slice A7 L7.length c7) := hm18.cell 7
  have f7 := hm18.frozen 7
  refine hK.out _ _ (KS.out w18 fun k hk => hg18.block k (by show k < w19.heap.size; omega) (hng.out k hk)) (fun hHeld => ?_)
  clear hK K
  refine norm_ (a' := ?_) ?_ ?_
  rotate_left
  · show Act.put _ (some 56) _ = _
    simp only [Act.put, List.setIfInBounds_toArray, List.set_cons_zero, List.set_cons_succ, i64_w, i32_w]
    rfl
  refine pure_ (i := 35) (N := some 57) (v := ?_) (a' := ?_) #[true, true, true, true, true, true, true, true, true, true, true, true, true, true, true, true, true, true, true, true, true, true, true, true, true, true, true, true, true, true, true, true, true, true, true, true, false, false] rfl rfl (by kernel_rfl) (fun _ _ _ h => h) (Or.inl ⟨by rfl, ?_⟩) ?_ ?_
  rotate_left
  · intro w'
    go_simp
    with_reducible rfl
  rotate_left
  · simp only [Act.put, List.setIfInBounds_toArray, List.set_cons_zero, List.set_cons_succ, i64_w, i32_w]
    rfl
  refine pure_ (i := 36) (N := some 58) (v := ?_) (a' := ?_) #[true, true, true, true, true, true, true, true, true, true, true, true, true, true, true, true, true, true, true, true, true, true, true, true, true, true, true, true, true, true, true, true, true, true, true, true, true, false] rfl rfl (by kernel_rfl) (fun _ _ _ h => h) (Or.inl ⟨by rfl, ?_⟩) ?_ ?_
  rotate_left
  · intro w'
    go_simp
    with_reducible rfl
  rotate_left
  · simp only [Act.put, List.setIfInBounds_toArray, List.set_cons_zero, List.set_cons_succ, i64_w, i32_w]
    rfl
  refine last_ (i := 37) (N := none) #[true, true, true, true, true, true, true, true, true, true, true, true, true, true, true, true, true, true, true, true, true, true, true, true, true, true, true, true, true, true, true, true, true, true, true, true, true, true] rfl rfl (by kernel_rfl) (by decide) (fun K hK => ?_)
  refine skip_ (w1 := ?_) (by rfl) rfl ?_ ?_
  rotate_left
  · go_simp
    rfl
  refine hK.out _ _ ?_
  clear hK K
  refine done_ (by kernel_rfl) ?_
  go_end0
  have S21 := (S20'.out.grown hg18 HR.out (by simp) hne hnm).put6 (by simp) (.slice A8 (L7.length + 1) c8)
  have S18 := S20'.out.grown hg18 HR.out (by simp) hne hnm
  have V21 := Kd.R_set hR18 S18.blk (by decide) 7 (.slice A8 (L7.length + 1) c8)
  have M21 := Kd.R_set (Kd.R_grown (Kd.R_drew M20.out) hg18 (fun k hk ee => by have h1 := HR.out k ee.symm; omega)) S18.blk (by decide) 7 (.slice A8 (L7.length + 1) c8)
  have O21 := Kd.R_set (Kd.R_grown (Kd.R_drew O20.out) hg18 (fun k hk ee => by have h1 := HR.out k ee.symm; omega)) S18.blk (by decide) 7 (.slice A8 (L7.length + 1) c8)
  rw [hO.out] at O21
  rw [hpush.out] at V21
  have hbF := (hb19.out.drew.trans hb18).setCell (p := ⟨b, 7, none⟩) hbb (.slice A8 (L7.length + 1) c8)
  exact ⟨rfl, hbF, tg2, (hF21.out.grown hg18 (fun k hk => by have h1 := HR.out k hk; omega)).head _ _, _, _, S21.blk, S21.bb, S21.be, S21.map, fun _ => M21, fun _ => S21.num (by simp), fun _ => S21.verts (by simp), fun _ => O21, fun _ => V21, fun _ => S21.gates (by simp), fun _ => S21.steps (by simp)⟩
end
end Go.Proofs.YtomknjmgcbbjlaaDoor.WW
