import Derived.Test.YtomknjmgcbbjlaaDoorPWlkx4
import Derived.Test.YtomknjmgcbbjlaaDoorPWlkx5
import Derived.Test.YtomknjmgcbbjlaaDoorMem
import Derived.Maps.OwnSet
import Derived.DeepKeys5
import Derived.Carry
import Derived.StillTailTactics
import Derived.Maps.Own
import Derived.Maps.OwnOps
namespace Go.Proofs.YtomknjmgcbbjlaaDoor.MM
open Go Go.RowKit Go.Maps Go.WideMaps Go.Proofs.YtomknjmgcbbjlaaDoor.Mem Go.Proofs.YtomknjmgcbbjlaaDoor.PWlk Go.Proofs.YtomknjmgcbbjlaaDoorW.PrintWords Go.Proofs.YtomknjmgcbbjlaaDoorW.PrintLast Go.Proofs.YtomknjmgcbbjlaaDoorW.PrintMore
set_option linter.unusedVariables false
set_option maxRecDepth 100000
theorem laidOut : laidOutB Tryd.prog = true := by kernel_rfl
theorem u107 : Tryd.prog.underlying 107 = some (.array 2 3) := by kernel_rfl
theorem lawE : Keyed Tryd.prog 107 := Keyed.of_law (deep_law_laid laidOut (m := 3) (by omega) (of_decide_eq_true (by kernel_rfl)) (by kernel_rfl) (by rw [u107]))
theorem hkeyE (a b : Int) (ha : (Lit.int .i64 a).wf = true) (hb : (Lit.int .i64 b).wf = true) : keyOf Tryd.prog 107 (.agg #[.int .i64 a, .int .i64 b]) = some (.string (keyBytes [.int .i64 a, .int .i64 b])) := by
  have hkt : Tryd.prog.keyType 107 = true := by kernel_rfl
  have hf : (Value.agg #[.int .i64 a, .int .i64 b]).formed Tryd.prog 107 = true := by
    simp only [Value.formed, u107]
    kernel_rfl
  have hs : ∃ n, Tryd.prog.types.size + 1 = n + 3 := ⟨Tryd.prog.types.size - 2, by have : 2 ≤ Tryd.prog.types.size := of_decide_eq_true (by kernel_rfl); omega⟩
  obtain ⟨n, hn⟩ := hs
  unfold keyOf
  rw [u107]
  dsimp only
  rw [hkt, hf, Bool.and_true, if_pos rfl, hn]
  have c107 : Tryd.prog.cellsOf 107 = 2 := by kernel_rfl
  have c3 : Tryd.prog.cellsOf 3 = 1 := by kernel_rfl
  have hL : Tryd.prog.keyLits (n + 3) 107 (Value.agg #[Value.int IntKind.i64 a, Value.int IntKind.i64 b]).cells.toList = some [Lit.int .i64 a, Lit.int .i64 b] := by
    have h1 : ∀ z : Int, (Lit.int .i64 z).wf = true → Tryd.prog.keyLits (n + 2) 3 [Value.int .i64 z] = some [Lit.int .i64 z] := by
      intro z hz
      simp only [Program.keyLits, Tryd.underlying3]
      rw [if_pos ⟨trivial, hz⟩]
    show Tryd.prog.keyLits ((n + 2) + 1) 107 _ = _
    generalize n + 2 = m at h1 ⊢
    simp only [Program.keyLits, u107]
    rw [c107, c3, if_pos (by rfl), show List.range 2 = [0, 1] from rfl]
    simp only [List.mapM_cons, List.mapM_nil]
    rw [show ((Value.agg #[Value.int IntKind.i64 a, Value.int IntKind.i64 b]).cells.toList.drop (0 * 1)).take 1 = [Value.int .i64 a] from rfl, show ((Value.agg #[Value.int IntKind.i64 a, Value.int IntKind.i64 b]).cells.toList.drop (1 * 1)).take 1 = [Value.int .i64 b] from rfl, h1 a ha, h1 b hb]
    rfl
  rw [hL]
  rfl
def Gl (w : World) : Prop := Kd.C k47 w (some ⟨0, 0, none⟩) 1 [⟨1, 2, 0⟩]
theorem Gl.cells {w : World} (h : Gl w) : w.cell? ⟨0, 0, none⟩ = some (.int .i64 1) ∧ w.cell? ⟨0, 1, none⟩ = some (.int .i64 2) ∧ w.cell? ⟨0, 2, none⟩ = some (.int .i64 0) := by
  obtain ⟨ad, e, h0, h1, h2⟩ := at_T47 h 0 (by decide) (by decide)
  cases e
  exact ⟨h0, h1, h2⟩
theorem Gl.cell0 {w : World} (h : Gl w) : w.cell? ⟨0, 0, none⟩ = some (.int .i64 1) := h.cells.1
theorem Gl.cell1 {w : World} (h : Gl w) : w.cell? ⟨0, 1, none⟩ = some (.int .i64 2) := h.cells.2.1
theorem Gl.cell2 {w : World} (h : Gl w) : w.cell? ⟨0, 2, none⟩ = some (.int .i64 0) := h.cells.2.2
theorem Gl.lt {w : World} (h : Gl w) : 0 < w.heap.size := World.block_lt_of_cell? w ⟨0, 0, none⟩ h.cell0
theorem Gl.alloc {w : World} (h : Gl w) (o : Obj) : Gl (w.alloc o) := Kd.C_alloc h o
theorem Gl.drew {w : World} (h : Gl w) : Gl w.drew := Kd.C_drew h
theorem Gl.below {w w' : World} (h : Gl w) (hb : Below w.heap.size w w') : Gl w' := Kd.C_below h hb
theorem Gl.mk_ {w : World} (h0 : w.cell? ⟨0, 0, none⟩ = some (.int .i64 1)) (h1 : w.cell? ⟨0, 1, none⟩ = some (.int .i64 2)) (h2 : w.cell? ⟨0, 2, none⟩ = some (.int .i64 0)) : Gl w := by
  refine ⟨rfl, by decide, fun _ => ⟨⟨0, 0, none⟩, rfl, fun j p hp => ?_⟩⟩
  match j, hp with
  | 0, hp =>
    have : (⟨1, 2, 0⟩ : S47) = p := Option.some.inj hp
    subst this
    refine ⟨[.int .i64 1, .int .i64 2, .int .i64 0], rfl, k47_mk w ⟨1, 2, 0⟩, fun i u hu => ?_⟩
    rw [Addr.add_lit]
    match i, hu with
    | 0, hu => cases hu; exact h0
    | 1, hu => cases hu; exact h1
    | 2, hu => cases hu; exact h2
    | i + 3, hu => simp at hu
  | j + 1, hp => simp at hp
theorem Gl.grown {w w' : World} (h : Gl w) {row : Option Nat} (hg : w.grownBy w' row) (h1 : some 0 ≠ row) : Gl w' := by
  have hb := hg.block 0 h.lt h1
  have hc : ∀ i, w'.cell? ⟨0, i, none⟩ = w.cell? ⟨0, i, none⟩ := fun i => by simp [World.cell?, hb]
  exact Gl.mk_ ((hc 0).trans h.cell0) ((hc 1).trans h.cell1) ((hc 2).trans h.cell2)
def edgeL (q : S47) : List (Int × Int) := [(q.f0, q.f1), (q.f1, q.f2), (q.f2, q.f0)]
def edgesU (l : List S47) : Nat → List ((Int × Int) × Int)
  | 0 => []
  | i + 1 => edgesU l i ++ (edgeL (l.getD i z47)).map fun e => (e, (i : Int))
def kE (e : Int × Int) : Lit := .string (keyBytes [.int .i64 e.1, .int .i64 e.2])
def datE (E : List ((Int × Int) × Int)) : DataW Unit := E.foldl (fun D p => D.put (kE p.1) (.lit (.int .i64 p.2))) (.map [])
theorem datE_snoc (E : List ((Int × Int) × Int)) (e : Int × Int) (i : Int) : datE (E ++ [(e, i)]) = (datE E).put (kE e) (.lit (.int .i64 i)) := by unfold datE; rw [List.foldl_append]; rfl
theorem kE_key {a b : Int} (ha : (Lit.int .i64 a).wf = true) (hb : (Lit.int .i64 b).wf = true) : keyOf Tryd.prog 107 (.agg #[.int .i64 a, .int .i64 b]) = some (kE (a, b)) := hkeyE a b ha hb
def upto (l : List S47) (i : Int) (q : S47) (k : Nat) : List ((Int × Int) × Int) := edgesU l i.toNat ++ ((edgeL q).take k).map fun e => (e, i)
theorem zeroE (w : World) : (zeroValue 3).run Tryd.prog w = .ok (.int .i64 0) w := by kernel_rfl
set_option maxHeartbeats 4000000 in
set_option maxRecDepth 100000 in
theorem table39 (w : World) (A0 A1 : Option Addr) (l0 : List S46) (l1 : List S47) (c0 c1 : Nat) (hr1 : Kd.C k47 w A1 l1.length l1) (hc1 : l1.length ≤ c1)
    (hg : Gl w) (hwf : ∀ q ∈ l1, (Lit.int .i64 q.f0).wf = true ∧ (Lit.int .i64 q.f1).wf = true ∧ (Lit.int .i64 q.f2).wf = true) (hlen : l1.length ≤ 8000)
    (G : Nat → Prop) (Bad : Prop) (hG0 : G 0) (hbad : ∀ (i k : Nat), i < l1.length → k < 3 → Maps.has (datE (upto l1 i (l1.getD i z47) k)) (kE ((edgeL (l1.getD i z47)).getD k (0, 0))) = true → Bad) (hgood : ∀ i, i < l1.length → G i → (∀ k, k < 3 → Maps.has (datE (upto l1 i (l1.getD i z47) k)) (kE ((edgeL (l1.getD i z47)).getD k (0, 0))) = false) → G (i + 1)) :
    Calls Tryd.prog 72 #[.agg #[.slice A0 l0.length c0, .slice A1 l1.length c1]] w fun e w' => ∃ v ok, e = .returned (.tuple #[v, .bool ok]) ∧ Below w.heap.size w w' ∧ (ok = true → v = .map (some (w.heap.size + 1)) ∧ w'.ownsMap Tryd.prog 107 (plainElem Tryd.prog 3) (w.heap.size + 1) (3 * l1.length) (datE (edgesU l1 l1.length)) ∧ G l1.length) ∧ (ok = false → Bad) := by
  have hl := hg.lt
  have hb := (Below.refl w.heap.size w).alloc (Nat.le_refl _) (.cells #[.slice A0 l0.length c0, .slice A1 l1.length c1] 25 (0, 0))
  have hm := Blk.here w 25 #[.slice A0 l0.length c0, .slice A1 l1.length c1]
  have hg1 := hg.alloc (.cells #[.slice A0 l0.length c0, .slice A1 l1.length c1] 25 (0, 0))
  have hmm := @run_makeMap Tryd.prog
  go_enter Tryd.func72, Tryd.ntmps72
  go_wp2_with fail
  have hb2 := below_alloc hb (.map #[] 0)
  have hm2 := hm.alloc (.map #[] 0)
  have hg2 := hg1.alloc (.map #[] 0)
  generalize hw1 : w.alloc (.cells #[.slice A0 l0.length c0, .slice A1 l1.length c1] 25 (0, 0)) = w1 at *
  have own2 := World.ownsMap_made (H := Unit) w1 Tryd.prog 107 (plainElem Tryd.prog 3)
  have hB : w1.heap.size = w.heap.size + 1 := by rw [← hw1]; simp
  rw [hB] at own2
  generalize hw2 : w1.alloc (.map #[] 0) = w2 at *
  have x1 : w2.cell? ⟨w.heap.size, 1, none⟩ = some (.slice A1 l1.length c1) := hm2.cell 1
  clear hw1 hw2 hb hm hg1
  go_loopw [15] (fun v wr => ∃ i : Int, v = .int .i64 i ∧ 0 ≤ i ∧ i ≤ l1.length ∧ Below w.heap.size w wr ∧ Gl wr ∧ Blk wr w.heap.size 25 #[.slice A0 l0.length c0, .slice A1 l1.length c1] ∧ wr.ownsMap Tryd.prog 107 (plainElem Tryd.prog 3) (w.heap.size + 1) (3 * i.toNat) (datE (edgesU l1 i.toNat)) ∧ G i.toNat) (fun v _ => l1.length - (intOf v).toNat)
  case atStart => exact ⟨0, rfl, by omega, by omega, hb2, hg2, hm2, own2, hG0⟩
  case round =>
    obtain ⟨i, rfl, hi0, hi1, hb3, hg3, hm3, own3, hGi⟩ := hrel
    by_cases hlt : i < l1.length
    · have dl : decide (i < (l1.length : Int)) = true := decide_eq_true hlt
      obtain ⟨ad1, e1, y0, y1, y2⟩ := at_T47 (Kd.C_below hr1 hb3) i hi0 hlt
      cases e1
      have p1 := eq_true hi0
      have p2 := eq_true hlt
      have hb4 := below_alloc hb3 (.cells #[.int .i64 (rd_T47 l1 i).f0, .int .i64 (rd_T47 l1 i).f1, .int .i64 (rd_T47 l1 i).f2] 47 (0, 0))
      have hg4 := hg3.alloc (.cells #[.int .i64 (rd_T47 l1 i).f0, .int .i64 (rd_T47 l1 i).f1, .int .i64 (rd_T47 l1 i).f2] 47 (0, 0))
      have hm4 := hm3.alloc (.cells #[.int .i64 (rd_T47 l1 i).f0, .int .i64 (rd_T47 l1 i).f1, .int .i64 (rd_T47 l1 i).f2] 47 (0, 0))
      have own4 := own3.alloc (.cells #[.int .i64 (rd_T47 l1 i).f0, .int .i64 (rd_T47 l1 i).f1, .int .i64 (rd_T47 l1 i).f2] 47 (0, 0))
      have hwq := hwf (rd_T47 l1 i) (by unfold rd_T47; rw [List.getD_eq_getElem?_getD, List.getElem?_eq_getElem (by omega)]; exact List.getElem_mem _)
      have ht4 := Blk.here wr 47 #[.int .i64 (rd_T47 l1 i).f0, .int .i64 (rd_T47 l1 i).f1, .int .i64 (rd_T47 l1 i).f2]
      go_wp2_with fail
      generalize hw4 : wr.alloc (.cells #[.int .i64 (rd_T47 l1 i).f0, .int .i64 (rd_T47 l1 i).f1, .int .i64 (rd_T47 l1 i).f2] 47 (0, 0)) = w4 at *
      have hs3 := hb3.size
      have hs3b := own3.lt
      generalize hgt : wr.heap.size = gt at *
      have hq : l1.getD i.toNat z47 = rd_T47 l1 i := rfl
      generalize rd_T47 l1 i = q at *
      clear hw4 hgt y0 y1 y2 hb3 hg3 hm3 own3
      go_loopw [20] (fun v wr2 => ∃ k : Int, v = .int .i64 k ∧ 0 ≤ k ∧ k ≤ 3 ∧ Below w.heap.size w wr2 ∧ Gl wr2 ∧ Blk wr2 w.heap.size 25 #[.slice A0 l0.length c0, .slice (some ad1) l1.length c1] ∧ Blk wr2 gt 47 #[.int .i64 q.f0, .int .i64 q.f1, .int .i64 q.f2] ∧ wr2.ownsMap Tryd.prog 107 (plainElem Tryd.prog 3) (w.heap.size + 1) (3 * i.toNat + k.toNat) (datE (upto l1 i q k.toNat)) ∧ ∀ j, j < k.toNat → Maps.has (datE (upto l1 i q j)) (kE ((edgeL q).getD j (0, 0))) = false) (fun v _ => 3 - (intOf v).toNat)
      case atStart => exact ⟨0, rfl, by omega, by omega, hb4, hg4, hm4, ht4, by rw [show upto l1 i q (Int.toNat 0) = edgesU l1 i.toNat by simp [upto]]; exact own4, fun j hj => absurd hj (by simp)⟩
      case round =>
        obtain ⟨k, rfl, hk0, hk1, hb5, hg5, hm5, ht5, own5, hno⟩ := hrel
        by_cases hk : k < 3
        · have dk : decide (k < 3) = true := decide_eq_true hk
          obtain rfl | rfl | rfl : k = 0 ∨ k = 1 ∨ k = 2 := by omega
          · have t0 : wr.cell? ⟨gt, 0, none⟩ = some (.int .i64 q.f0) := ht5.cell 0
            have t1 : wr.cell? ⟨gt, 1, none⟩ = some (.int .i64 q.f1) := ht5.cell 1
            have n0 : wr.cell? ⟨0, 0, none⟩ = some (.int .i64 1) := hg5.cell0
            have t0a : (wr.alloc (.cells #[.int .i64 0, .int .i64 0] 107 (0, 0))).cell? ⟨gt, 0, none⟩ = some (.int .i64 q.f0) := (ht5.alloc _).cell 0
            have t1a : (wr.alloc (.cells #[.int .i64 0, .int .i64 0] 107 (0, 0))).cell? ⟨gt, 1, none⟩ = some (.int .i64 q.f1) := (ht5.alloc _).cell 1
            have n0a : (wr.alloc (.cells #[.int .i64 0, .int .i64 0] 107 (0, 0))).cell? ⟨0, 0, none⟩ = some (.int .i64 1) := (hg5.alloc _).cell0
            go_wp2_with fail
            have hkl := kE_key (a := q.f0) (b := q.f1) hwq.1 hwq.2.1
            have h8 := Blk.here wr 107 #[.int .i64 q.f0, .int .i64 q.f1]
            have own6 := (own5.alloc (.cells #[.int .i64 q.f0, .int .i64 q.f1] 107 (0, 0))).drew
            have hb6 := (below_alloc hb5 (.cells #[.int .i64 q.f0, .int .i64 q.f1] 107 (0, 0))).drew
            have hg6 := (hg5.alloc (.cells #[.int .i64 q.f0, .int .i64 q.f1] 107 (0, 0))).drew
            have hm6 := (hm5.alloc (.cells #[.int .i64 q.f0, .int .i64 q.f1] 107 (0, 0))).drew
            have ht6 := (ht5.alloc (.cells #[.int .i64 q.f0, .int .i64 q.f1] 107 (0, 0))).drew
            have h86 := h8.drew
            go_region
            have hs5 := hb5.size
            have hl5 := ht5.lt
            have hl6 := hg5.lt
            generalize hg8 : wr.heap.size = g8 at *
            generalize hw6 : (wr.alloc (.cells #[.int .i64 q.f0, .int .i64 q.f1] 107 (0, 0))).drew = w6 at *
            have z0 : w6.cell? ⟨g8, 0, none⟩ = some (.int .i64 q.f0) := h86.cell 0
            have z1 : w6.cell? ⟨g8, 1, none⟩ = some (.int .i64 q.f1) := h86.cell 1
            clear t0 t1 n0 t0a t1a n0a hb5 hg5 hm5 ht5 own5 h8 hw6 hg8
            obtain ⟨D, hD⟩ : ∃ D, D = datE (upto l1 i q (Int.toNat 0)) := ⟨_, rfl⟩
            obtain ⟨kl, hklE⟩ : ∃ kl, kl = kE (q.f0, q.f1) := ⟨_, rfl⟩
            rw [← hD] at own6
            rw [← hklE] at hkl
            have HD := Lib.hid hD
            have HK := Lib.hid hklE
            have HNO := Lib.hid hno
            clear hD hklE hno
            cases hh : Maps.has D kl with
            | true =>
              go_wp2_with (first | (at_lookup; refine wpList_lookup_own_ok_int _ rfl _ _ 94 rfl 107 3 .i64 lawE Tryd.underlying94 Tryd.underlying3 (zeroE _) (w.heap.size + 1) _ D rfl own6 _ _ rfl hkl ?_; intro c hat hwc))
              go_ret2
              refine ⟨_, false, rfl, hb6, fun h => (nomatch h), fun _ => hbad i.toNat 0 (by omega) (by omega) ?_⟩
              rw [hq, show ((i.toNat : Nat) : Int) = i by omega]
              rw [HD.out, HK.out] at hh
              exact hh
            | false =>
              go_wp2_with (first | (at_lookup; refine wpList_lookup_own_ok_int _ rfl _ _ 94 rfl 107 3 .i64 lawE Tryd.underlying94 Tryd.underlying3 (zeroE _) (w.heap.size + 1) _ D rfl own6 _ _ rfl hkl ?_; intro c hat hwc) | (at_mapUpdate; refine wpList_mapUpdate_own _ rfl _ _ _ 94 rfl 107 3 lawE Tryd.underlying94 _ (w.heap.size + 1) _ D rfl own6 (by unfold maxLen; omega) _ _ _ rfl rfl hkl _ [] (plainElem_int Tryd.underlying3 (WalkArith.wf_i64 (by omega))) ?_; intro w7 own7 hgr7; have hg7 := hg6.grown hgr7 (by intro h; injection h with h; omega); have hm7 := hm6.grown hgr7 (by intro h; injection h with h; omega); have ht7 := ht6.grown hgr7 (by intro h; injection h with h; omega); have hb7 := hb6.grown hgr7 hb6.size (fun j hj => by cases hj; exact Nat.le_succ _)))
              go_roundw
              case rel =>
                refine ⟨1, rfl, by omega, by omega, hb7, hg7, hm7, ht7, ?_, ?_⟩
                · rw [show upto l1 i q (Int.toNat 1) = upto l1 i q (Int.toNat 0) ++ [((q.f0, q.f1), i)] by simp [upto, edgeL], datE_snoc, ← HD.out, ← HK.out]
                  exact own7
                · intro j hj
                  rcases Nat.lt_or_ge j 0 with hj2 | hj2
                  · exact absurd hj2 (Nat.not_lt_zero _)
                  · have hj3 : j = 0 := by
                      have : j < 1 := by simpa using hj
                      omega
                    subst hj3
                    rw [HD.out, HK.out] at hh
                    exact hh
              case measure => simp [intOf]
          · have t0 : wr.cell? ⟨gt, 1, none⟩ = some (.int .i64 q.f1) := ht5.cell 1
            have t1 : wr.cell? ⟨gt, 2, none⟩ = some (.int .i64 q.f2) := ht5.cell 2
            have n0 : wr.cell? ⟨0, 1, none⟩ = some (.int .i64 2) := hg5.cell1
            have t0a : (wr.alloc (.cells #[.int .i64 0, .int .i64 0] 107 (0, 0))).cell? ⟨gt, 1, none⟩ = some (.int .i64 q.f1) := (ht5.alloc _).cell 1
            have t1a : (wr.alloc (.cells #[.int .i64 0, .int .i64 0] 107 (0, 0))).cell? ⟨gt, 2, none⟩ = some (.int .i64 q.f2) := (ht5.alloc _).cell 2
            have n0a : (wr.alloc (.cells #[.int .i64 0, .int .i64 0] 107 (0, 0))).cell? ⟨0, 1, none⟩ = some (.int .i64 2) := (hg5.alloc _).cell1
            go_wp2_with fail
            have hkl := kE_key (a := q.f1) (b := q.f2) hwq.2.1 hwq.2.2
            have h8 := Blk.here wr 107 #[.int .i64 q.f1, .int .i64 q.f2]
            have own6 := (own5.alloc (.cells #[.int .i64 q.f1, .int .i64 q.f2] 107 (0, 0))).drew
            have hb6 := (below_alloc hb5 (.cells #[.int .i64 q.f1, .int .i64 q.f2] 107 (0, 0))).drew
            have hg6 := (hg5.alloc (.cells #[.int .i64 q.f1, .int .i64 q.f2] 107 (0, 0))).drew
            have hm6 := (hm5.alloc (.cells #[.int .i64 q.f1, .int .i64 q.f2] 107 (0, 0))).drew
            have ht6 := (ht5.alloc (.cells #[.int .i64 q.f1, .int .i64 q.f2] 107 (0, 0))).drew
            have h86 := h8.drew
            go_region
            have hs5 := hb5.size
            have hl5 := ht5.lt
            have hl6 := hg5.lt
            generalize hg8 : wr.heap.size = g8 at *
            generalize hw6 : (wr.alloc (.cells #[.int .i64 q.f1, .int .i64 q.f2] 107 (0, 0))).drew = w6 at *
            have z0 : w6.cell? ⟨g8, 0, none⟩ = some (.int .i64 q.f1) := h86.cell 0
            have z1 : w6.cell? ⟨g8, 1, none⟩ = some (.int .i64 q.f2) := h86.cell 1
            clear t0 t1 n0 t0a t1a n0a hb5 hg5 hm5 ht5 own5 h8 hw6 hg8
            obtain ⟨D, hD⟩ : ∃ D, D = datE (upto l1 i q (Int.toNat 1)) := ⟨_, rfl⟩
            obtain ⟨kl, hklE⟩ : ∃ kl, kl = kE (q.f1, q.f2) := ⟨_, rfl⟩
            rw [← hD] at own6
            rw [← hklE] at hkl
            have HD := Lib.hid hD
            have HK := Lib.hid hklE
            have HNO := Lib.hid hno
            clear hD hklE hno
            cases hh : Maps.has D kl with
            | true =>
              go_wp2_with (first | (at_lookup; refine wpList_lookup_own_ok_int _ rfl _ _ 94 rfl 107 3 .i64 lawE Tryd.underlying94 Tryd.underlying3 (zeroE _) (w.heap.size + 1) _ D rfl own6 _ _ rfl hkl ?_; intro c hat hwc))
              go_ret2
              refine ⟨_, false, rfl, hb6, fun h => (nomatch h), fun _ => hbad i.toNat 1 (by omega) (by omega) ?_⟩
              rw [hq, show ((i.toNat : Nat) : Int) = i by omega]
              rw [HD.out, HK.out] at hh
              exact hh
            | false =>
              go_wp2_with (first | (at_lookup; refine wpList_lookup_own_ok_int _ rfl _ _ 94 rfl 107 3 .i64 lawE Tryd.underlying94 Tryd.underlying3 (zeroE _) (w.heap.size + 1) _ D rfl own6 _ _ rfl hkl ?_; intro c hat hwc) | (at_mapUpdate; refine wpList_mapUpdate_own _ rfl _ _ _ 94 rfl 107 3 lawE Tryd.underlying94 _ (w.heap.size + 1) _ D rfl own6 (by unfold maxLen; omega) _ _ _ rfl rfl hkl _ [] (plainElem_int Tryd.underlying3 (WalkArith.wf_i64 (by omega))) ?_; intro w7 own7 hgr7; have hg7 := hg6.grown hgr7 (by intro h; injection h with h; omega); have hm7 := hm6.grown hgr7 (by intro h; injection h with h; omega); have ht7 := ht6.grown hgr7 (by intro h; injection h with h; omega); have hb7 := hb6.grown hgr7 hb6.size (fun j hj => by cases hj; exact Nat.le_succ _)))
              go_roundw
              case rel =>
                refine ⟨2, rfl, by omega, by omega, hb7, hg7, hm7, ht7, ?_, ?_⟩
                · rw [show upto l1 i q (Int.toNat 2) = upto l1 i q (Int.toNat 1) ++ [((q.f1, q.f2), i)] by simp [upto, edgeL], datE_snoc, ← HD.out, ← HK.out]
                  exact own7
                · intro j hj
                  rcases Nat.lt_or_ge j 1 with hj2 | hj2
                  · exact HNO.out j (by simpa using hj2)
                  · have hj3 : j = 1 := by
                      have : j < 2 := by simpa using hj
                      omega
                    subst hj3
                    rw [HD.out, HK.out] at hh
                    exact hh
              case measure => simp [intOf]
          · have t0 : wr.cell? ⟨gt, 2, none⟩ = some (.int .i64 q.f2) := ht5.cell 2
            have t1 : wr.cell? ⟨gt, 0, none⟩ = some (.int .i64 q.f0) := ht5.cell 0
            have n0 : wr.cell? ⟨0, 2, none⟩ = some (.int .i64 0) := hg5.cell2
            have t0a : (wr.alloc (.cells #[.int .i64 0, .int .i64 0] 107 (0, 0))).cell? ⟨gt, 2, none⟩ = some (.int .i64 q.f2) := (ht5.alloc _).cell 2
            have t1a : (wr.alloc (.cells #[.int .i64 0, .int .i64 0] 107 (0, 0))).cell? ⟨gt, 0, none⟩ = some (.int .i64 q.f0) := (ht5.alloc _).cell 0
            have n0a : (wr.alloc (.cells #[.int .i64 0, .int .i64 0] 107 (0, 0))).cell? ⟨0, 2, none⟩ = some (.int .i64 0) := (hg5.alloc _).cell2
            go_wp2_with fail
            have hkl := kE_key (a := q.f2) (b := q.f0) hwq.2.2 hwq.1
            have h8 := Blk.here wr 107 #[.int .i64 q.f2, .int .i64 q.f0]
            have own6 := (own5.alloc (.cells #[.int .i64 q.f2, .int .i64 q.f0] 107 (0, 0))).drew
            have hb6 := (below_alloc hb5 (.cells #[.int .i64 q.f2, .int .i64 q.f0] 107 (0, 0))).drew
            have hg6 := (hg5.alloc (.cells #[.int .i64 q.f2, .int .i64 q.f0] 107 (0, 0))).drew
            have hm6 := (hm5.alloc (.cells #[.int .i64 q.f2, .int .i64 q.f0] 107 (0, 0))).drew
            have ht6 := (ht5.alloc (.cells #[.int .i64 q.f2, .int .i64 q.f0] 107 (0, 0))).drew
            have h86 := h8.drew
            go_region
            have hs5 := hb5.size
            have hl5 := ht5.lt
            have hl6 := hg5.lt
            generalize hg8 : wr.heap.size = g8 at *
            generalize hw6 : (wr.alloc (.cells #[.int .i64 q.f2, .int .i64 q.f0] 107 (0, 0))).drew = w6 at *
            have z0 : w6.cell? ⟨g8, 0, none⟩ = some (.int .i64 q.f2) := h86.cell 0
            have z1 : w6.cell? ⟨g8, 1, none⟩ = some (.int .i64 q.f0) := h86.cell 1
            clear t0 t1 n0 t0a t1a n0a hb5 hg5 hm5 ht5 own5 h8 hw6 hg8
            obtain ⟨D, hD⟩ : ∃ D, D = datE (upto l1 i q (Int.toNat 2)) := ⟨_, rfl⟩
            obtain ⟨kl, hklE⟩ : ∃ kl, kl = kE (q.f2, q.f0) := ⟨_, rfl⟩
            rw [← hD] at own6
            rw [← hklE] at hkl
            have HD := Lib.hid hD
            have HK := Lib.hid hklE
            have HNO := Lib.hid hno
            clear hD hklE hno
            cases hh : Maps.has D kl with
            | true =>
              go_wp2_with (first | (at_lookup; refine wpList_lookup_own_ok_int _ rfl _ _ 94 rfl 107 3 .i64 lawE Tryd.underlying94 Tryd.underlying3 (zeroE _) (w.heap.size + 1) _ D rfl own6 _ _ rfl hkl ?_; intro c hat hwc))
              go_ret2
              refine ⟨_, false, rfl, hb6, fun h => (nomatch h), fun _ => hbad i.toNat 2 (by omega) (by omega) ?_⟩
              rw [hq, show ((i.toNat : Nat) : Int) = i by omega]
              rw [HD.out, HK.out] at hh
              exact hh
            | false =>
              go_wp2_with (first | (at_lookup; refine wpList_lookup_own_ok_int _ rfl _ _ 94 rfl 107 3 .i64 lawE Tryd.underlying94 Tryd.underlying3 (zeroE _) (w.heap.size + 1) _ D rfl own6 _ _ rfl hkl ?_; intro c hat hwc) | (at_mapUpdate; refine wpList_mapUpdate_own _ rfl _ _ _ 94 rfl 107 3 lawE Tryd.underlying94 _ (w.heap.size + 1) _ D rfl own6 (by unfold maxLen; omega) _ _ _ rfl rfl hkl _ [] (plainElem_int Tryd.underlying3 (WalkArith.wf_i64 (by omega))) ?_; intro w7 own7 hgr7; have hg7 := hg6.grown hgr7 (by intro h; injection h with h; omega); have hm7 := hm6.grown hgr7 (by intro h; injection h with h; omega); have ht7 := ht6.grown hgr7 (by intro h; injection h with h; omega); have hb7 := hb6.grown hgr7 hb6.size (fun j hj => by cases hj; exact Nat.le_succ _)))
              go_roundw
              case rel =>
                refine ⟨3, rfl, by omega, by omega, hb7, hg7, hm7, ht7, ?_, ?_⟩
                · rw [show upto l1 i q (Int.toNat 3) = upto l1 i q (Int.toNat 2) ++ [((q.f2, q.f0), i)] by simp [upto, edgeL], datE_snoc, ← HD.out, ← HK.out]
                  exact own7
                · intro j hj
                  rcases Nat.lt_or_ge j 2 with hj2 | hj2
                  · exact HNO.out j (by simpa using hj2)
                  · have hj3 : j = 2 := by
                      have : j < 3 := by simpa using hj
                      omega
                    subst hj3
                    rw [HD.out, HK.out] at hh
                    exact hh
              case measure => simp [intOf]
        · have dk : decide (k < 3) = false := decide_eq_false hk
          obtain rfl : k = 3 := by omega
          go_wp2_with fail
          go_roundw
          case rel =>
            refine ⟨i + 1, by go_num, by omega, by omega, hb5, hg5, hm5, ?_, ?_⟩
            · rw [show (i + 1).toNat = i.toNat + 1 by omega, Nat.mul_add]
              rw [show edgesU l1 (i.toNat + 1) = upto l1 i q (Int.toNat 3) by rw [edgesU, hq, show ((i.toNat : Nat) : Int) = i by omega]; rfl]
              exact own5
            · rw [show (i + 1).toNat = i.toNat + 1 by omega]
              refine hgood i.toNat (by omega) hGi fun j hj => ?_
              rw [hq, show ((i.toNat : Nat) : Int) = i by omega]
              exact hno j (by simpa using hj)
          case measure => simp [intOf]; omega
    · have dl : decide (i < (l1.length : Int)) = false := decide_eq_false hlt
      have hil : i.toNat = l1.length := by omega
      rw [hil] at own3 hGi
      go_wp2
      go_ret2
      exact ⟨.map (some (w.heap.size + 1)), .inr ⟨rfl, hb3, rfl, own3, hGi⟩⟩
end Go.Proofs.YtomknjmgcbbjlaaDoor.MM
namespace Go.Proofs.YtomknjmgcbbjlaaDoor.MM
open Go Go.RowKit Go.Maps Go.WideMaps Go.Proofs.YtomknjmgcbbjlaaDoor.PWlk
set_option linter.unusedVariables false
set_option maxRecDepth 100000
def wfE (e : Int × Int) : Prop := (Lit.int .i64 e.1).wf = true ∧ (Lit.int .i64 e.2).wf = true
theorem kE_isKey {e : Int × Int} (h : wfE e) : WideAt.IsKeyLit (kE e) := lawE.key (kE_key h.1 h.2)
theorem kE_inj {e f : Int × Int} (he : wfE e) (hf : wfE f) (h : kE e = kE f) : e = f := by
  have h1 := kE_key he.1 he.2
  have h2 := kE_key hf.1 hf.2
  have h3 : keyOf Tryd.prog 107 (.agg #[.int .i64 f.1, .int .i64 f.2]) = some (kE (e.1, e.2)) := by rw [h2]; exact congrArg some h.symm
  have h4 := lawE.inj h1 h3
  simp at h4
  exact Prod.ext h4.1 h4.2
def putE (D : DataW Unit) (p : (Int × Int) × Int) : DataW Unit := D.put (kE p.1) (.lit (.int .i64 p.2))
theorem has_fold (e : Int × Int) (he : wfE e) : ∀ (E : List ((Int × Int) × Int)) (D : DataW Unit), IsMap D → (∀ p ∈ E, wfE p.1) → (Maps.has (E.foldl putE D) (kE e) = true ↔ Maps.has D (kE e) = true ∨ e ∈ E.map (·.1)) := by
  intro E
  induction E with
  | nil => intro D hD hE; simp
  | cons p r ih =>
    intro D hD hE
    have hp := hE p (List.mem_cons_self ..)
    rw [List.foldl_cons, ih (putE D p) (hD.put _ _) (fun x hx => hE x (List.mem_cons_of_mem _ hx)), List.map_cons, List.mem_cons]
    by_cases h : e = p.1
    · have h1 : Maps.has (putE D p) (kE e) = true := by rw [h]; exact has_put_same hD (kE_isKey hp) _
      exact ⟨fun _ => .inr (.inl h), fun _ => .inl h1⟩
    · have h1 : Maps.has (putE D p) (kE e) = Maps.has D (kE e) := has_put_other (fun hk => h (kE_inj he hp hk)) _
      rw [h1]
      exact ⟨fun hx => hx.imp_right .inr, fun hx => hx.imp_right fun hy => hy.resolve_left h⟩
theorem has_datE {E : List ((Int × Int) × Int)} (hE : ∀ p ∈ E, wfE p.1) {e : Int × Int} (he : wfE e) : Maps.has (datE E) (kE e) = true ↔ e ∈ E.map (·.1) := by
  have h := has_fold e he E (.map []) isMap_empty hE
  have h0 : Maps.has (.map [] : DataW Unit) (kE e) = false := rfl
  rw [h0] at h
  exact h.trans ⟨fun hx => hx.resolve_left (by decide), .inr⟩
theorem at_fold (e : Int × Int) (he : wfE e) (z : DataW Unit) : ∀ (E : List ((Int × Int) × Int)) (D : DataW Unit), IsMap D → (∀ p ∈ E, wfE p.1) → (e ∉ E.map (·.1) → (E.foldl putE D).atKey (kE e) z = D.atKey (kE e) z) ∧ ∀ i, (E.map (·.1)).Nodup → (e, i) ∈ E → (E.foldl putE D).atKey (kE e) z = .lit (.int .i64 i) := by
  intro E
  induction E with
  | nil => intro D hD hE; exact ⟨fun _ => rfl, fun i _ h => nomatch h⟩
  | cons p r ih =>
    intro D hD hE
    have hp := hE p (List.mem_cons_self ..)
    obtain ⟨h1, h2⟩ := ih (putE D p) (hD.put _ _) (fun x hx => hE x (List.mem_cons_of_mem _ hx))
    refine ⟨fun hn => ?_, fun i hnd hi => ?_⟩
    · rw [List.map_cons, List.mem_cons, not_or] at hn
      rw [List.foldl_cons, h1 hn.2]
      exact atKey_put_other (fun hk => hn.1 (kE_inj he hp hk)) _ _
    · rw [List.map_cons, List.nodup_cons] at hnd
      rcases List.mem_cons.1 hi with rfl | hi
      · rw [List.foldl_cons, h1 hnd.1]
        exact atKey_put_same hD (kE_isKey hp) _ _
      · rw [List.foldl_cons]
        exact h2 i hnd.2 hi
theorem at_datE {E : List ((Int × Int) × Int)} (hE : ∀ p ∈ E, wfE p.1) {e : Int × Int} (he : wfE e) {i : Int} (hnd : (E.map (·.1)).Nodup) (hi : (e, i) ∈ E) (z : DataW Unit) : (datE E).atKey (kE e) z = .lit (.int .i64 i) := by
  exact (at_fold e he z E (.map []) isMap_empty hE).2 i hnd hi
end Go.Proofs.YtomknjmgcbbjlaaDoor.MM
