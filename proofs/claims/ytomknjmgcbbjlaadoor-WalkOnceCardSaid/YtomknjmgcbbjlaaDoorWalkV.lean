import Derived.Test.YtomknjmgcbbjlaaDoorWalkT
namespace Go.Proofs.YtomknjmgcbbjlaaDoor.WW
open Go Go.RowKit Go.Maps Go.WideMaps Go.Proofs.YtomknjmgcbbjlaaDoor.Mem Go.Proofs.YtomknjmgcbbjlaaDoor.PWlk Go.Proofs.YtomknjmgcbbjlaaDoorW.PrintWords Go.Proofs.YtomknjmgcbbjlaaDoorW.PrintLast Go.Proofs.YtomknjmgcbbjlaaDoorW.PrintMore
open Go.Proofs.YtomknjmgcbbjlaaDoor.MM (trs trT Gl)
set_option linter.unusedVariables false
set_option linter.unnecessarySimpa false
set_option linter.unusedSimpArgs false
set_option maxRecDepth 100000
section
variable (P : List S46) (T : List S47) (r : Int) (ht : MR.Told P T r) (A0 : Option Addr) (c0 : Nat) (A1 : Option Addr) (c1 : Nat) (w : World) (hr0 : Kd.C k46 w A0 P.length P) (hc0 : P.length ≤ c0) (hr1 : Kd.C k47 w A1 T.length T) (hc1 : T.length ≤ c1) (hG : Gl w)
include ht hr0 hc0 hr1 hc1 hG
set_option maxHeartbeats 2000000 in
theorem canon27 : Calls Tryd.prog 27 #[.agg #[.slice A0 P.length c0, .slice A1 T.length c1]] w fun en w' => ∃ v u : Value, en = .returned (.tuple #[.agg #[v, u], .int .i64 r]) ∧ Kd.R k46 46 w' w.heap.size (fun _ => True) v (if r = 0 then (wk T).V.map (fun v => P.getD v.toNat z46) else []) ∧ Kd.R k47 47 w' w.heap.size (fun _ => True) u (if r = 0 then (wk T).T.map to47 else []) ∧ Below w.heap.size w w' := by
  have hb0 := (Below.refl w.heap.size w).alloc (Nat.le_refl _) (.cells #[.slice A0 P.length c0, .slice A1 T.length c1] 25 (0, 0))
  have hb := hb0.alloc (by simp) (.cells #[.slice none 0 0, .slice none 0 0] 25 (0, 0))
  have hm := (Blk.here w 25 #[.slice A0 P.length c0, .slice A1 T.length c1]).alloc (.cells #[.slice none 0 0, .slice none 0 0] 25 (0, 0))
  have hq := Blk.here (w.alloc (.cells #[.slice A0 P.length c0, .slice A1 T.length c1] 25 (0, 0))) 25 #[.slice none 0 0, .slice none 0 0]
  rw [show (w.alloc (.cells #[.slice A0 P.length c0, .slice A1 T.length c1] 25 (0, 0))).heap.size = w.heap.size + 1 by simp] at hq
  have hck := Lib.hid (walked57 P T r ht A0 c0 A1 c1 ((w.alloc (.cells #[.slice A0 P.length c0, .slice A1 T.length c1] 25 (0, 0))).alloc (.cells #[.slice none 0 0, .slice none 0 0] 25 (0, 0))) (Kd.C_below hr0 hb) hc0 (Kd.C_below hr1 hb) hc1 ((hG.alloc _).alloc _))
  have hsz : w.heap.size ≤ ((w.alloc (.cells #[.slice A0 P.length c0, .slice A1 T.length c1] 25 (0, 0))).alloc (.cells #[.slice none 0 0, .slice none 0 0] 25 (0, 0))).heap.size := by simp; omega
  have x0 : ((w.alloc (.cells #[.slice A0 P.length c0, .slice A1 T.length c1] 25 (0, 0))).alloc (.cells #[.slice none 0 0, .slice none 0 0] 25 (0, 0))).cell? ⟨w.heap.size, 0, none⟩ = some (.slice A0 P.length c0) := hm.cell 0
  have x1 : ((w.alloc (.cells #[.slice A0 P.length c0, .slice A1 T.length c1] 25 (0, 0))).alloc (.cells #[.slice none 0 0, .slice none 0 0] 25 (0, 0))).cell? ⟨w.heap.size, 1, none⟩ = some (.slice A1 T.length c1) := hm.cell 1
  have HT := Lib.hid ht
  clear ht hb0
  go_enter Tryd.func27, Tryd.ntmps27
  go_wp2_with fail
  refine hck.out.mono ?_
  generalize (w.alloc (.cells #[.slice A0 P.length c0, .slice A1 T.length c1] 25 (0, 0))).alloc (.cells #[.slice none 0 0, .slice none 0 0] 25 (0, 0)) = w1 at *
  clear hck x0 x1
  rintro en w2 (⟨hr, rfl, hb2⟩ | ⟨rfl, b, rfl, w3, hb3, hs3, e, hb2, tg, vm, vn, vv, vo, vt, vg, vs, hA⟩)
  · have hrb : (r == 0) = false := by simpa using hr
    have hHr := Lib.hid hr
    have HQ := hq.below hb2
    have q0 := HQ.cell 0
    have q1 := HQ.cell 1
    have f0 := HQ.frozen 0
    have f1 := HQ.frozen 1
    have HB := Lib.hid (hb.trans (hb2.mono hsz))
    replace HQ := Lib.hid HQ
    clear hr hb2 hb hsz hm hq
    go_wp2_with fail
    have HQ2 := ((HQ.out.set_ 0 (.slice none 0 0)).set_ 1 (.slice none 0 0))
    refine bodyPost_ret (results_ct rfl _ _ (w.heap.size + 1) 25 #[.slice none 0 0, .slice none 0 0] (0, 0) _ rfl HQ2 Tryd.underlying25 rfl (by kernel_rfl)) rfl ?_
    exact ⟨_, _, rfl, Kd.R_nil _ _ _ _ _, Kd.R_nil _ _ _ _ _, (HB.out.setCell (p := ⟨w.heap.size + 1, 0, none⟩) (Nat.le_succ _) _).setCell (p := ⟨w.heap.size + 1, 1, none⟩) (Nat.le_succ _) _⟩
  · obtain ⟨hS, hsg⟩ := surf_of HT.out
    have hTab := tab_of hS.hp hsg
    have hinv := WP.reach_inv hTab (WP.fin_reach hTab)
    have hsm := small_of hS hinv
    have hVb : ∀ v ∈ (wk T).V, 0 ≤ v ∧ v < (P.length : Int) := fun v hv => by
      obtain ⟨i, hi, h2⟩ := (hinv.vO v).1 hv
      exact hS.rng (hinv.olt i hi) h2
    have x7 : w2.cell? ⟨b, 7, none⟩ = some vt := hA.blk.cell 7
    have x5 : w2.cell? ⟨b, 5, none⟩ = some vv := hA.blk.cell 5
    obtain ⟨Av, cv, rfl⟩ := Kd.R_slice (hA.verts nin)
    obtain ⟨At, ct, rfl⟩ := Kd.R_slice (hA.tris nin)
    have hb32 := hb3.trans (hb2.mono hs3)
    have hlow := Nat.le_trans hsz hs3
    have hm2 := hm.below hb32
    have hq2 := hq.below hb32
    have hB2 := hb.trans (hb32.mono hsz)
    obtain ⟨V, hV⟩ : ∃ V, V = (wk T).V := ⟨_, rfl⟩
    obtain ⟨TL, hTL⟩ : ∃ L, L = (wk T).T.map to47 := ⟨_, rfl⟩
    have hVs : Hid (Kd.R (Kd.int .i64) 3 w2 w.heap.size (fun k => tg k = 4) (.slice Av V.length cv) V) := Lib.hid (by rw [hV]; exact Kd.R_lower (hA.verts nin) hlow)
    have hTs : Hid (Kd.R k47 47 w2 w.heap.size (fun k => tg k = 6) (.slice At TL.length ct) TL) := Lib.hid (by rw [hTL]; exact Kd.R_lower (hA.tris nin) hlow)
    have hVl : V.length ≤ 50000 := by rw [hV]; exact hsm.V
    rw [← hV] at hVb
    have hx5 : w2.cell? ⟨b, 5, none⟩ = some (.slice Av V.length cv) := by rw [hV]; exact x5
    have hx7 : w2.cell? ⟨b, 7, none⟩ = some (.slice At TL.length ct) := by rw [hTL]; exact x7
    have hx5b : (w2.alloc (.cells #[.slice none 0 0, .slice At TL.length ct] 25 (0, 0))).cell? ⟨b, 5, none⟩ = some (.slice Av V.length cv) := by rw [hV]; exact (hA.blk.alloc _).cell 5
    have hb2w : w.heap.size ≤ w2.heap.size := Nat.le_trans hsz hb32.size
    replace hV := Lib.hid hV
    replace hTL := Lib.hid hTL
    replace hVb := Lib.hid hVb
    replace hb2w := Lib.hid hb2w
    obtain ⟨tg5, htg⟩ : ∃ t, t = (fun k => if w2.heap.size ≤ k then 1 else tg k) := ⟨_, rfl⟩
    have hfr : Hid (∀ k, w2.heap.size ≤ k → tg5 k = 1) := Lib.hid (fun k hk => by rw [htg]; exact if_pos hk)
    have hg6b := Blk.here w2 25 #[.slice none 0 0, .slice At TL.length ct]
    have hSt := Lib.hid (show Below w.heap.size w (w2.alloc (.cells #[.slice none 0 0, .slice At TL.length ct] 25 (0, 0))) ∧ ∃ vp, Blk (w2.alloc (.cells #[.slice none 0 0, .slice At TL.length ct] 25 (0, 0))) w2.heap.size 25 #[vp, .slice At TL.length ct] ∧ Blk (w2.alloc (.cells #[.slice none 0 0, .slice At TL.length ct] 25 (0, 0))) w.heap.size 25 #[.slice A0 P.length c0, .slice A1 T.length c1] ∧ Blk (w2.alloc (.cells #[.slice none 0 0, .slice At TL.length ct] 25 (0, 0))) (w.heap.size + 1) 25 #[.slice none 0 0, .slice none 0 0] ∧ Kd.R k46 46 (w2.alloc (.cells #[.slice none 0 0, .slice At TL.length ct] 25 (0, 0))) w.heap.size (fun k => tg5 k = 1) vp ((V.take 0).map fun v => P.getD v.toNat z46) ∧ Kd.R k47 47 (w2.alloc (.cells #[.slice none 0 0, .slice At TL.length ct] 25 (0, 0))) w.heap.size (fun k => tg5 k = 6) (.slice At TL.length ct) TL ∧ Kd.R (Kd.int .i64) 3 (w2.alloc (.cells #[.slice none 0 0, .slice At TL.length ct] 25 (0, 0))) w.heap.size (fun k => tg5 k = 4) (.slice Av V.length cv) V ∧ w2.heap.size ≤ (w2.alloc (.cells #[.slice none 0 0, .slice At TL.length ct] 25 (0, 0))).heap.size from
      ⟨hB2.alloc hb2w.out _, _, hg6b, hm2.alloc _, hq2.alloc _, Kd.R_nil _ _ _ _ _, by rw [htg]; exact Kd.R_alloc (R_retag hTs.out 1) _, by rw [htg]; exact Kd.R_alloc (R_retag hVs.out 1) _, by simp⟩)
    have hne1 : Hid (w.heap.size ≠ w2.heap.size ∧ w.heap.size + 1 ≠ w2.heap.size) := Lib.hid ⟨fun e => by have := hm2.lt; omega, fun e => by have := hq2.lt; omega⟩
    replace hS := Lib.hid hS
    clear htg hb2 hb3 hb32 hA hm hq hb hB2 hg6b x5 x7 hinv hsm hTab hsg hs3 hsz hlow hm2 hq2
    go_wp2_with fail
    clear hx5 hx7 hx5b
    generalize w2.heap.size = g6 at *
    go_loopw [28] (fun v wx => ∃ i : Nat, v = .int .i64 (i : Int) ∧ i ≤ V.length ∧ Hid (Below w.heap.size w wx ∧ ∃ vp, Blk wx g6 25 #[vp, .slice At TL.length ct] ∧ Blk wx w.heap.size 25 #[.slice A0 P.length c0, .slice A1 T.length c1] ∧ Blk wx (w.heap.size + 1) 25 #[.slice none 0 0, .slice none 0 0] ∧ Kd.R k46 46 wx w.heap.size (fun k => tg5 k = 1) vp ((V.take i).map fun v => P.getD v.toNat z46) ∧ Kd.R k47 47 wx w.heap.size (fun k => tg5 k = 6) (.slice At TL.length ct) TL ∧ Kd.R (Kd.int .i64) 3 wx w.heap.size (fun k => tg5 k = 4) (.slice Av V.length cv) V ∧ g6 ≤ wx.heap.size)) (fun v _ => V.length - (intOf v).toNat)
    case atStart => exact ⟨0, rfl, Nat.zero_le _, hSt⟩
    case round =>
      clear hSt hVs hTs
      obtain ⟨i, rfl, hi, hR⟩ := hrel
      by_cases hlt : i < V.length
      · have dl : decide ((i : Int) < (V.length : Int)) = true := decide_eq_true (by omega)
        obtain ⟨hb5, vp, k1, k2, k3, k4, k5, k6, k7⟩ := hR.out
        obtain ⟨Ap, cp, rfl⟩ := Kd.R_slice k4
        obtain ⟨adv, e2, hv0⟩ := Kd.at_int (Kd.R_reads' k6).2.2 (i : Int) (by omega) (by omega)
        cases e2
        have hvm : Go.Proofs.YtomknjmgcbbjlaaDoorW.PrintWords.rd V (i : Int) ∈ V := by
          unfold Go.Proofs.YtomknjmgcbbjlaaDoorW.PrintWords.rd
          rw [List.getD_eq_getElem?_getD, Int.toNat_natCast, List.getElem?_eq_getElem hlt]
          exact List.getElem_mem _
        have hvt : V.take (i + 1) = V.take i ++ [Go.Proofs.YtomknjmgcbbjlaaDoorW.PrintWords.rd V (i : Int)] := by
          unfold Go.Proofs.YtomknjmgcbbjlaaDoorW.PrintWords.rd
          rw [List.take_add_one, Int.toNat_natCast, List.getD_eq_getElem?_getD, List.getElem?_eq_getElem hlt]
          rfl
        have hvb := hVb.out _ hvm
        clear hvm
        obtain ⟨v, hve⟩ : ∃ v : Int, v = Go.Proofs.YtomknjmgcbbjlaaDoorW.PrintWords.rd V (i : Int) := ⟨_, rfl⟩
        rw [← hve, Int.toNat_natCast] at hv0
        rw [← hve] at hvt hvb
        replace hve := Lib.hid hve
        obtain ⟨adp, e3, y0, y1, y2⟩ := at_T46 (Kd.C_below hr0 hb5) v hvb.1 hvb.2
        cases e3
        have hrd : rd_T46 P v = P.getD v.toNat z46 := rfl
        obtain ⟨f0, hf0⟩ : ∃ f, f = (rd_T46 P v).f0 := ⟨_, rfl⟩
        obtain ⟨f1, hf1⟩ : ∃ f, f = (rd_T46 P v).f1 := ⟨_, rfl⟩
        obtain ⟨f2, hf2⟩ : ∃ f, f = (rd_T46 P v).f2 := ⟨_, rfl⟩
        rw [← hf0] at y0
        rw [← hf1] at y1
        rw [← hf2] at y2
        obtain ⟨L, hL⟩ : ∃ L, L = (V.take i).map fun v => P.getD v.toNat z46 := ⟨_, rfl⟩
        rw [← hL] at k4 k1
        have hLl : L.length = i := by rw [hL, List.length_map, List.length_take]; omega
        have hLn : Hid ((V.take (i + 1)).map (fun v => P.getD v.toNat z46) = L ++ [(⟨f0, f1, f2⟩ : S46)]) := Lib.hid (by
          rw [hvt, List.map_append, ← hL, hf0, hf1, hf2]
          rfl)
        have hL0 : Hid (Kd.R k46 46 wr.drew w.heap.size (fun k => tg5 k = 1) (.slice Ap L.length cp) L) := Lib.hid (Kd.R_drew k4)
        have HR1 : Hid (∀ k, (Value.slice Ap i cp).ownBlock = some k → tg5 k = 1) := Lib.hid (by rw [← hLl]; exact k4.1)
        have hne : Hid (some g6 ≠ (Value.slice Ap i cp).ownBlock ∧ some w.heap.size ≠ (Value.slice Ap i cp).ownBlock ∧ some (w.heap.size + 1) ≠ (Value.slice Ap i cp).ownBlock) := Lib.hid (by
          rw [← hLl]
          exact ⟨Kd.R_ne k4 k1 (by decide), Kd.R_ne k4 k2 (by decide), Kd.R_ne k4 k3 (by decide)⟩)
        rw [hLl] at k1
        have x0 : wr.cell? ⟨g6, 0, none⟩ = some (.slice Ap i cp) := k1.cell 0
        have x1 : wr.cell? ⟨w.heap.size, 0, none⟩ = some (.slice (some adp) P.length c0) := k2.cell 0
        have KS : ∀ w' : World, (∀ k, k = g6 ∨ k = w.heap.size → w'.heap[k]? = wr.heap[k]?) → Below w.heap.size w w' → w'.cell? ⟨g6, 0, none⟩ = some (.slice Ap i cp) ∧ w'.cell? ⟨w.heap.size, 0, none⟩ = some (.slice (some adp) P.length c0) ∧ w'.cell? (adp.add (v.toNat * 3)) = some (.int .i64 f0) ∧ w'.cell? ⟨(adp.add (v.toNat * 3)).block, (adp.add (v.toNat * 3)).off + 1, none⟩ = some (.int .i64 f1) ∧ w'.cell? ⟨(adp.add (v.toNat * 3)).block, (adp.add (v.toNat * 3)).off + 2, none⟩ = some (.int .i64 f2) := fun w' hk hb9 => by
          have hc : ∀ (k o : Nat), (k = g6 ∨ k = w.heap.size) → w'.cell? ⟨k, o, none⟩ = wr.cell? ⟨k, o, none⟩ := fun k o h => by simp [World.cell?, hk k h]
          obtain ⟨ad9, e9, z0, z1, z2⟩ := at_T46 (Kd.C_below hr0 hb9) v hvb.1 hvb.2
          cases e9
          rw [← hf0] at z0
          rw [← hf1] at z1
          rw [← hf2] at z2
          exact ⟨(hc _ _ (.inl rfl)).trans x0, (hc _ _ (.inr rfl)).trans x1, z0, z1, z2⟩
        have hlts : ∀ k, k = g6 ∨ k = w.heap.size → k < wr.drew.heap.size := by
          rintro k (rfl | rfl)
          · exact k1.lt
          · exact k2.lt
        have hbw : w.heap.size ≤ wr.drew.heap.size := Nat.le_of_lt k2.lt
        have hbw' := hbw
        have K0 := Lib.hid (KS wr.drew (fun k hk => rfl) hb5.drew)
        have KA := Lib.hid (KS (wr.drew.alloc (.cells #[.int .i64 f0, .int .i64 f1, .int .i64 f2] 46 (0, 0))) (fun k hk => Below.heap_alloc wr.drew _ k (hlts k hk)) (hb5.drew.alloc hbw _))
        replace KS := Lib.hid KS
        have hn2 : Hid (∀ k, k = g6 ∨ k = w.heap.size → some k ≠ (Value.slice Ap i cp).ownBlock) := Lib.hid (by
          rintro k (rfl | rfl)
          · exact hne.out.1
          · exact hne.out.2.1)
        have HF : Hid (∀ k, wr.drew.heap.size ≤ k → tg5 k = 1) := Lib.hid (fun k hk => hfr.out k (Nat.le_trans k7 hk))
        replace hlts := Lib.hid hlts
        have HL := hL0
        have hLi := Lib.hid hLl
        have HK1 := Lib.hid k1
        have HK2 := Lib.hid k2
        have HK3 := Lib.hid k3
        have HK5 := Lib.hid k5
        have HK6 := Lib.hid k6
        have HK7 := Lib.hid k7
        replace hb5 := Lib.hid hb5
        have pv1 := eq_true hvb.1
        have pv2 := eq_true hvb.2
        clear hR k1 k2 k3 k4 k5 k6 k7 hL hLl hL0 hvt hrd hf0 hf1 hf2 hvb x0 x1 y0 y1 y2
        go_upto_region 8 with fail
        clear hv0
        refine start_ (n := 11) (S := fun w' => w'.cell? ⟨g6, 0, none⟩ = some (.slice Ap i cp) ∧ w'.cell? ⟨w.heap.size, 0, none⟩ = some (.slice (some adp) P.length c0) ∧ w'.cell? (adp.add (v.toNat * 3)) = some (.int .i64 f0) ∧ w'.cell? ⟨(adp.add (v.toNat * 3)).block, (adp.add (v.toNat * 3)).off + 1, none⟩ = some (.int .i64 f1) ∧ w'.cell? ⟨(adp.add (v.toNat * 3)).block, (adp.add (v.toNat * 3)).off + 2, none⟩ = some (.int .i64 f2)) (ds := [10]) #[false, false, false, false, false, false, false, false, false, false, false] (by kernel_rfl) rfl rfl K0.out (fun hHeld => ?_)
        refine pure_ (i := 0) (N := some 32) (v := ?_) (a' := ?_) #[true, false, false, false, false, false, false, false, false, false, false] rfl rfl (by kernel_rfl) (fun _ _ _ h => h) (Or.inl ⟨by rfl, ?_⟩) ?_ ?_
        rotate_left
        · intro w'
          go_simp
          with_reducible rfl
        rotate_left
        · simp only [Act.put, List.setIfInBounds_toArray, List.set_cons_zero, List.set_cons_succ, i64_w, i32_w]
          rfl
        refine take_ (i := 1) (N := some 33) (v := ?_) (a' := ?_) #[true, true, false, false, false, false, false, false, false, false, false] rfl rfl (by kernel_rfl) (fun _ _ _ h => h) (Or.inl ⟨by rfl, ?_⟩) hHeld ?_ ?_
        rotate_left
        · rintro w' ⟨s0, s1, s2, s3, s4⟩
          go_simp
          with_reducible rfl
        rotate_left
        · simp only [Act.put, List.setIfInBounds_toArray, List.set_cons_zero, List.set_cons_succ, i64_w, i32_w]
          rfl
        refine pure_ (i := 2) (N := some 34) (v := ?_) (a' := ?_) #[true, true, true, false, false, false, false, false, false, false, false] rfl rfl (by kernel_rfl) (fun _ _ _ h => h) (Or.inl ⟨by rfl, ?_⟩) ?_ ?_
        rotate_left
        · intro w'
          go_simp
          with_reducible rfl
        rotate_left
        · simp only [Act.put, List.setIfInBounds_toArray, List.set_cons_zero, List.set_cons_succ, i64_w, i32_w]
          rfl
        refine take_ (i := 3) (N := some 35) (v := ?_) (a' := ?_) #[true, true, true, true, false, false, false, false, false, false, false] rfl rfl (by kernel_rfl) (fun _ _ _ h => h) (Or.inl ⟨by rfl, ?_⟩) hHeld ?_ ?_
        rotate_left
        · rintro w' ⟨s0, s1, s2, s3, s4⟩
          go_simp
          with_reducible rfl
        rotate_left
        · simp only [Act.put, List.setIfInBounds_toArray, List.set_cons_zero, List.set_cons_succ, i64_w, i32_w]
          rfl
        refine pure_ (i := 4) (N := some 36) (v := ?_) (a' := ?_) #[true, true, true, true, true, false, false, false, false, false, false] rfl rfl (by kernel_rfl) (fun _ _ _ h => h) (Or.inl ⟨by rfl, ?_⟩) ?_ ?_
        rotate_left
        · intro w'
          go_simp
          with_reducible rfl
        rotate_left
        · simp only [Act.put, List.setIfInBounds_toArray, List.set_cons_zero, List.set_cons_succ, i64_w, i32_w]
          rfl
        refine pure_ (i := 5) (N := some 37) (v := ?_) (a' := ?_) #[true, true, true, true, true, true, false, false, false, false, false] rfl rfl (by kernel_rfl) (fun _ _ _ h => h) (Or.inl ⟨by rfl, ?_⟩) ?_ ?_
        rotate_left
        · intro w'
          go_simp
          with_reducible rfl
        rotate_left
        · simp only [Act.put, List.setIfInBounds_toArray, List.set_cons_zero, List.set_cons_succ, i64_w, i32_w]
          rfl
        refine take_ (i := 6) (N := some 38) (v := ?_) (a' := ?_) #[true, true, true, true, true, true, true, false, false, false, false] rfl rfl (by kernel_rfl) (fun _ _ _ h => h) (Or.inl ⟨by rfl, ?_⟩) hHeld ?_ ?_
        rotate_left
        · rintro w' ⟨s0, s1, s2, s3, s4⟩
          go_simp
          with_reducible rfl
        rotate_left
        · simp only [Act.put, List.setIfInBounds_toArray, List.set_cons_zero, List.set_cons_succ, i64_w, i32_w]
          rfl
        refine one_ (i := 7) (N := (some 39)) #[true, true, true, true, true, true, true, true, false, false, false] rfl rfl (by kernel_rfl) (by decide) (fun K hK => ?_)
        refine value_ (w1 := ?_) (v := ?_) (by rfl) rfl ?_ ?_
        rotate_left 2
        · go_simp
          constructor
          · rfl
          · rfl
        refine hK.out _ _ KA.out (fun hHeld => ?_)
        clear hK K
        refine norm_ (a' := ?_) ?_ ?_
        rotate_left
        · show Act.put _ (some 39) _ = _
          simp only [Act.put, List.setIfInBounds_toArray, List.set_cons_zero, List.set_cons_succ, i64_w, i32_w]
          rfl
        refine one_ (i := 8) (N := (some 40)) #[true, true, true, true, true, true, true, true, true, false, false] rfl rfl (by kernel_rfl) (by decide) (fun K hK => ?_)
        refine Kd.R_append_step k46 (w0 := wr.drew) (W := wr.drew) w.heap.size (by rfl) (.tmp 33) (.tmp 39) 22 46 (.agg #[.int .i64 0, .int .i64 0, .int .i64 0]) 24 rfl Tryd.underlying22 info46 rfl (by decide) (by decide) (.slice Ap L.length cp) L ⟨f0, f1, f2⟩ [.int .i64 f0, .int .i64 f1, .int .i64 f2] (fun k => tg5 k = 1) (fun _ => False) (by first | rfl | (rw [hLi.out]; rfl)) (by rfl) (k46_mkM _ _ _ _) (fun _ hk => hk.elim) HF.out HL.out (Below.refl _ _) hbw' (by rw [hLi.out]; omega) ?_
        intro v18 w18 hR18 hb18 hg18 hat18
        obtain ⟨A8, c8, rfl⟩ := Kd.R_slice hR18
        rw [show (L ++ [(⟨f0, f1, f2⟩ : S46)]).length = i + 1 by rw [List.length_append, hLi.out]; rfl] at hR18 hat18 ⊢
        rw [hLi.out] at hg18
        have hm18 := HK1.out.drew.grown hg18 hne.out.1
        have y8 : w18.cell? ⟨g6, 0, none⟩ = some (.slice Ap i cp) := hm18.cell 0
        have f8 := hm18.frozen 0
        refine hK.out _ _ (KS.out w18 (fun k hk => hg18.block k (hlts.out k hk) (hn2.out k hk)) (hb5.out.drew.trans hb18)) (fun hHeld => ?_)
        clear hK K
        refine norm_ (a' := ?_) ?_ ?_
        rotate_left
        · show Act.put _ (some 40) _ = _
          simp only [Act.put, List.setIfInBounds_toArray, List.set_cons_zero, List.set_cons_succ, i64_w, i32_w]
          rfl
        refine pure_ (i := 9) (N := some 41) (v := ?_) (a' := ?_) #[true, true, true, true, true, true, true, true, true, true, false] rfl rfl (by kernel_rfl) (fun _ _ _ h => h) (Or.inl ⟨by rfl, ?_⟩) ?_ ?_
        rotate_left
        · intro w'
          go_simp
          with_reducible rfl
        rotate_left
        · simp only [Act.put, List.setIfInBounds_toArray, List.set_cons_zero, List.set_cons_succ, i64_w, i32_w]
          rfl
        refine last_ (i := 10) (N := none) #[true, true, true, true, true, true, true, true, true, true, true] rfl rfl (by kernel_rfl) (by decide) (fun K hK => ?_)
        refine skip_ (w1 := ?_) (by rfl) rfl ?_ ?_
        rotate_left
        · go_simp
          rfl
        refine hK.out _ _ ?_
        clear hK K
        refine done_ (by kernel_rfl) ?_
        have hN := Lib.hid (show Below w.heap.size w (w18.setCell ⟨g6, 0, none⟩ (.slice A8 (i + 1) c8)) ∧ ∃ vp, Blk (w18.setCell ⟨g6, 0, none⟩ (.slice A8 (i + 1) c8)) g6 25 #[vp, .slice At TL.length ct] ∧ Blk (w18.setCell ⟨g6, 0, none⟩ (.slice A8 (i + 1) c8)) w.heap.size 25 #[.slice (some adp) P.length c0, .slice A1 T.length c1] ∧ Blk (w18.setCell ⟨g6, 0, none⟩ (.slice A8 (i + 1) c8)) (w.heap.size + 1) 25 #[.slice none 0 0, .slice none 0 0] ∧ Kd.R k46 46 (w18.setCell ⟨g6, 0, none⟩ (.slice A8 (i + 1) c8)) w.heap.size (fun k => tg5 k = 1) vp ((V.take (i + 1)).map fun v => P.getD v.toNat z46) ∧ Kd.R k47 47 (w18.setCell ⟨g6, 0, none⟩ (.slice A8 (i + 1) c8)) w.heap.size (fun k => tg5 k = 6) (.slice At TL.length ct) TL ∧ Kd.R (Kd.int .i64) 3 (w18.setCell ⟨g6, 0, none⟩ (.slice A8 (i + 1) c8)) w.heap.size (fun k => tg5 k = 4) (.slice (some adv) V.length cv) V ∧ g6 ≤ (w18.setCell ⟨g6, 0, none⟩ (.slice A8 (i + 1) c8)).heap.size from
          ⟨(hb5.out.drew.trans hb18).setCell (p := ⟨g6, 0, none⟩) hb2w.out _, _, hm18.set_ 0 _, ((HK2.out.drew.grown hg18 hne.out.2.1)).far (p := ⟨g6, 0, none⟩) hne1.out.1 _, ((HK3.out.drew.grown hg18 hne.out.2.2)).far (p := ⟨g6, 0, none⟩) hne1.out.2 _, by rw [hLn.out]; exact Kd.R_set hR18 hm18 (by decide) 0 _, Kd.R_set (Kd.R_grown (Kd.R_drew HK5.out) hg18 (fun k hk ee => by have h1 := HR1.out k ee.symm; omega)) hm18 (by decide) 0 _, Kd.R_set (Kd.R_grown (Kd.R_drew HK6.out) hg18 (fun k hk ee => by have h1 := HR1.out k ee.symm; omega)) hm18 (by decide) 0 _, by simp [World.setCell]; exact Nat.le_trans HK7.out hg18.size⟩)
        clear hR18 hb18 hg18 hat18 hm18 y8 f8
        go_wp2_with fail
        exact ⟨⟨i + 1, by simp, by omega, hN⟩, by simp [intOf]; omega⟩
      · have dl : decide ((i : Int) < (V.length : Int)) = false := decide_eq_false (by omega)
        have hil : i = V.length := by omega
        obtain ⟨hb5, vp, k1, k2, k3, k4, k5, k6, k7⟩ := hR.out
        rw [hil, List.take_length] at k4
        obtain ⟨Ap, cp, rfl⟩ := Kd.R_slice k4
        have q0 := k1.cell 0
        have q1 := k1.cell 1
        have f0 := k3.frozen 0
        have f1 := k3.frozen 1
        have z0 := k3.cell 0
        have z1 := k3.cell 1
        have HX := Lib.hid (And.intro hb5 (And.intro k3 (And.intro k4 k5)))
        clear hR hb5 k1 k2 k3 k4 k5 k6 k7
        rw [List.length_map] at q0 HX
        go_wp2_with fail
        obtain ⟨h1, h2, h3, h4⟩ := HX.out
        have HQ2 := (h2.set_ 0 (.slice Ap V.length cp)).set_ 1 (.slice At TL.length ct)
        refine bodyPost_ret (results_ct rfl _ _ (w.heap.size + 1) 25 #[.slice Ap V.length cp, .slice At TL.length ct] (0, 0) _ rfl HQ2 Tryd.underlying25 rfl (by kernel_rfl)) rfl ?_
        have r1 := Kd.R_set (Kd.R_set (Kd.R_mono h3 (ok' := fun _ => True) (fun _ _ => trivial)) h2 (by decide) 0 (.slice Ap V.length cp)) (h2.set_ 0 (.slice Ap V.length cp)) (by decide) 1 (.slice At TL.length ct)
        have r2 := Kd.R_set (Kd.R_set (Kd.R_mono h4 (ok' := fun _ => True) (fun _ _ => trivial)) h2 (by decide) 0 (.slice Ap V.length cp)) (h2.set_ 0 (.slice Ap V.length cp)) (by decide) 1 (.slice At TL.length ct)
        rw [← hV.out, ← hTL.out]
        exact ⟨_, _, rfl, r1, r2, (h1.setCell (p := ⟨w.heap.size + 1, 0, none⟩) (Nat.le_succ _) _).setCell (p := ⟨w.heap.size + 1, 1, none⟩) (Nat.le_succ _) _⟩
end
end Go.Proofs.YtomknjmgcbbjlaaDoor.WW
