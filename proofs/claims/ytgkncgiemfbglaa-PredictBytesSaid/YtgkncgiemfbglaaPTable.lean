/- predict.table walked, where no edge comes twice. -/
import Derived.Test.YtgkncgiemfbglaaPPrdx1
import Derived.Test.YtgkncgiemfbglaaMem
import Derived.Maps.OwnSet
import Derived.DeepKeys5
import Derived.Carry
import Derived.StillTailTactics
import Derived.Maps.Own
import Derived.Maps.OwnOps
namespace Go.Proofs.Ytgkncgiemfbglaa.PT
open Go Go.RowKit Go.Maps Go.WideMaps Go.Proofs.Ytgkncgiemfbglaa.Mem Go.Proofs.Ytgkncgiemfbglaa.PPrd Go.Proofs.YtgkncgiemfbglaaW.PrintWords Go.Proofs.YtgkncgiemfbglaaW.PrintLast Go.Proofs.YtgkncgiemfbglaaW.PrintMore
set_option linter.unusedVariables false
theorem laidOut : laidOutB Try.prog = true := by kernel_rfl
theorem u77 : Try.prog.underlying 77 = some (.array 2 3) := by kernel_rfl
theorem lawE : Keyed Try.prog 77 := Keyed.of_law (deep_law_laid laidOut (m := 3) (by omega) (of_decide_eq_true (by kernel_rfl)) (by kernel_rfl) (by rw [u77]))
theorem hkeyE (a b : Int) (ha : (Lit.int .i64 a).wf = true) (hb : (Lit.int .i64 b).wf = true) : keyOf Try.prog 77 (.agg #[.int .i64 a, .int .i64 b]) = some (.string (keyBytes [.int .i64 a, .int .i64 b])) := by
  have hkt : Try.prog.keyType 77 = true := by kernel_rfl
  have hf : (Value.agg #[.int .i64 a, .int .i64 b]).formed Try.prog 77 = true := by
    simp only [Value.formed, u77]
    kernel_rfl
  have hs : ∃ n, Try.prog.types.size + 1 = n + 3 := ⟨Try.prog.types.size - 2, by have : 2 ≤ Try.prog.types.size := of_decide_eq_true (by kernel_rfl); omega⟩
  obtain ⟨n, hn⟩ := hs
  unfold keyOf
  rw [u77]
  dsimp only
  rw [hkt, hf, Bool.and_true, if_pos rfl, hn]
  have c77 : Try.prog.cellsOf 77 = 2 := by kernel_rfl
  have c3 : Try.prog.cellsOf 3 = 1 := by kernel_rfl
  have hL : Try.prog.keyLits (n + 3) 77 (Value.agg #[Value.int IntKind.i64 a, Value.int IntKind.i64 b]).cells.toList = some [Lit.int .i64 a, Lit.int .i64 b] := by
    have h1 : ∀ z : Int, (Lit.int .i64 z).wf = true → Try.prog.keyLits (n + 2) 3 [Value.int .i64 z] = some [Lit.int .i64 z] := by
      intro z hz
      simp only [Program.keyLits, Try.underlying3]
      rw [if_pos ⟨trivial, hz⟩]
    show Try.prog.keyLits ((n + 2) + 1) 77 _ = _
    generalize n + 2 = m at h1 ⊢
    simp only [Program.keyLits, u77]
    rw [c77, c3, if_pos (by rfl), show List.range 2 = [0, 1] from rfl]
    simp only [List.mapM_cons, List.mapM_nil]
    rw [show ((Value.agg #[Value.int IntKind.i64 a, Value.int IntKind.i64 b]).cells.toList.drop (0 * 1)).take 1 = [Value.int .i64 a] from rfl, show ((Value.agg #[Value.int IntKind.i64 a, Value.int IntKind.i64 b]).cells.toList.drop (1 * 1)).take 1 = [Value.int .i64 b] from rfl, h1 a ha, h1 b hb]
    rfl
  rw [hL]
  rfl
def edgeL (q : S36) : List (Int × Int) := [(q.f0, q.f1), (q.f1, q.f2), (q.f2, q.f0)]
/-- The edges of the first i triangles, with their numbers. -/
def edgesU (l : List S36) : Nat → List ((Int × Int) × Int)
  | 0 => []
  | i + 1 => edgesU l i ++ (edgeL (l.getD i z36)).map fun e => (e, (i : Int))
def kE (e : Int × Int) : Lit := .string (keyBytes [.int .i64 e.1, .int .i64 e.2])
def datE (E : List ((Int × Int) × Int)) : DataW Unit := E.foldl (fun D p => D.put (kE p.1) (.lit (.int .i64 p.2))) (.map [])
theorem datE_snoc (E : List ((Int × Int) × Int)) (e : Int × Int) (i : Int) : datE (E ++ [(e, i)]) = (datE E).put (kE e) (.lit (.int .i64 i)) := by unfold datE; rw [List.foldl_append]; rfl
theorem kE_key {a b : Int} (ha : (Lit.int .i64 a).wf = true) (hb : (Lit.int .i64 b).wf = true) : keyOf Try.prog 77 (.agg #[.int .i64 a, .int .i64 b]) = some (kE (a, b)) := hkeyE a b ha hb
/-- The edges up to the k-th of triangle i. -/
def upto (l : List S36) (i : Int) (q : S36) (k : Nat) : List ((Int × Int) × Int) := edgesU l i.toNat ++ ((edgeL q).take k).map fun e => (e, i)
theorem zeroE (w : World) : (zeroValue 3).run Try.prog w = .ok (.int .i64 0) w := by kernel_rfl
set_option maxHeartbeats 4000000 in
set_option maxRecDepth 100000 in
theorem table28 (w : World) (A1 : Option Addr) (l1 : List S36) (c1 : Nat) (hr1 : Kd.C k36 w A1 l1.length l1) (hc1 : l1.length ≤ c1)
    (hwf : ∀ q ∈ l1, (Lit.int .i64 q.f0).wf = true ∧ (Lit.int .i64 q.f1).wf = true ∧ (Lit.int .i64 q.f2).wf = true) (hlen : l1.length ≤ 8000)
    (hno : ∀ (i k : Nat), i < l1.length → k < 3 → Maps.has (datE (upto l1 i (l1.getD i z36) k)) (kE ((edgeL (l1.getD i z36)).getD k (0, 0))) = false) :
    Calls Try.prog 28 #[.slice A1 l1.length c1] w fun e w' => e = .returned (.map (some w.heap.size)) ∧ Below w.heap.size w w' ∧ w'.ownsMap Try.prog 77 (plainElem Try.prog 3) w.heap.size (3 * l1.length) (datE (edgesU l1 l1.length)) := by
  have hb := Below.refl w.heap.size w
  have hmm := @run_makeMap Try.prog
  have HNO := Lib.hid hno
  clear hno
  go_enter Try.func28, Try.ntmps28
  go_wp2_with fail
  have hb2 := below_alloc hb (.map #[] 0)
  have own2 := World.ownsMap_made (H := Unit) w Try.prog 77 (plainElem Try.prog 3)
  generalize hw2 : w.alloc (.map #[] 0) = w2 at *
  clear hw2 hb
  go_loopw [13] (fun v wr => ∃ i : Int, v = .int .i64 i ∧ 0 ≤ i ∧ i ≤ l1.length ∧ Below w.heap.size w wr ∧ wr.ownsMap Try.prog 77 (plainElem Try.prog 3) w.heap.size (3 * i.toNat) (datE (edgesU l1 i.toNat))) (fun v _ => l1.length - (intOf v).toNat)
  case atStart => exact ⟨0, rfl, by omega, by omega, hb2, own2⟩
  case round =>
    obtain ⟨i, rfl, hi0, hi1, hb3, own3⟩ := hrel
    by_cases hlt : i < l1.length
    · have dl : decide (i < (l1.length : Int)) = true := decide_eq_true hlt
      obtain ⟨ad1, e1, y0, y1, y2⟩ := at_T36 (Kd.C_below hr1 hb3) i hi0 hlt
      cases e1
      have p1 := eq_true hi0
      have p2 := eq_true hlt
      have hb4 := below_alloc hb3 (.cells #[.int .i64 (rd_T36 l1 i).f0, .int .i64 (rd_T36 l1 i).f1, .int .i64 (rd_T36 l1 i).f2] 36 (0, 0))
      have own4 := own3.alloc (.cells #[.int .i64 (rd_T36 l1 i).f0, .int .i64 (rd_T36 l1 i).f1, .int .i64 (rd_T36 l1 i).f2] 36 (0, 0))
      have hwq := hwf (rd_T36 l1 i) (by unfold rd_T36; rw [List.getD_eq_getElem?_getD, List.getElem?_eq_getElem (by omega)]; exact List.getElem_mem _)
      have ht4 := Blk.here wr 36 #[.int .i64 (rd_T36 l1 i).f0, .int .i64 (rd_T36 l1 i).f1, .int .i64 (rd_T36 l1 i).f2]
      go_wp2_with fail
      generalize hw4 : wr.alloc (.cells #[.int .i64 (rd_T36 l1 i).f0, .int .i64 (rd_T36 l1 i).f1, .int .i64 (rd_T36 l1 i).f2] 36 (0, 0)) = w4 at *
      have hs3 := hb3.size
      have hs3b := own3.lt
      generalize hgt : wr.heap.size = gt at *
      have hq : l1.getD i.toNat z36 = rd_T36 l1 i := rfl
      generalize rd_T36 l1 i = q at *
      clear hw4 hgt y0 y1 y2 hb3 own3
      go_loopw [18] (fun v wr2 => ∃ k : Int, v = .int .i64 k ∧ 0 ≤ k ∧ k ≤ 3 ∧ Below w.heap.size w wr2 ∧ Blk wr2 gt 36 #[.int .i64 q.f0, .int .i64 q.f1, .int .i64 q.f2] ∧ wr2.ownsMap Try.prog 77 (plainElem Try.prog 3) w.heap.size (3 * i.toNat + k.toNat) (datE (upto l1 i q k.toNat))) (fun v _ => 3 - (intOf v).toNat)
      case atStart => exact ⟨0, rfl, by omega, by omega, hb4, ht4, by rw [show upto l1 i q (Int.toNat 0) = edgesU l1 i.toNat by simp [upto]]; exact own4⟩
      case round =>
        obtain ⟨k, rfl, hk0, hk1, hb5, ht5, own5⟩ := hrel
        by_cases hk : k < 3
        · have dk : decide (k < 3) = true := decide_eq_true hk
          obtain rfl | rfl | rfl : k = 0 ∨ k = 1 ∨ k = 2 := by omega
          · have t0 : wr.cell? ⟨gt, 0, none⟩ = some (.int .i64 q.f0) := ht5.cell 0
            have t1 : wr.cell? ⟨gt, 1, none⟩ = some (.int .i64 q.f1) := ht5.cell 1
            have t0a : (wr.alloc (.cells #[.int .i64 0, .int .i64 0] 77 (0, 0))).cell? ⟨gt, 0, none⟩ = some (.int .i64 q.f0) := (ht5.alloc _).cell 0
            have t1a : (wr.alloc (.cells #[.int .i64 0, .int .i64 0] 77 (0, 0))).cell? ⟨gt, 1, none⟩ = some (.int .i64 q.f1) := (ht5.alloc _).cell 1
            go_wp2_with fail
            have hkl := kE_key (a := q.f0) (b := q.f1) hwq.1 hwq.2.1
            have h8 := Blk.here wr 77 #[.int .i64 q.f0, .int .i64 q.f1]
            have own6 := (own5.alloc (.cells #[.int .i64 q.f0, .int .i64 q.f1] 77 (0, 0))).drew
            have hb6 := (below_alloc hb5 (.cells #[.int .i64 q.f0, .int .i64 q.f1] 77 (0, 0))).drew
            have ht6 := (ht5.alloc (.cells #[.int .i64 q.f0, .int .i64 q.f1] 77 (0, 0))).drew
            have h86 := h8.drew
            go_region
            have hs5 := hb5.size
            have hl5 := ht5.lt
            generalize hg8 : wr.heap.size = g8 at *
            generalize hw6 : (wr.alloc (.cells #[.int .i64 q.f0, .int .i64 q.f1] 77 (0, 0))).drew = w6 at *
            have z0 : w6.cell? ⟨g8, 0, none⟩ = some (.int .i64 q.f0) := h86.cell 0
            have z1 : w6.cell? ⟨g8, 1, none⟩ = some (.int .i64 q.f1) := h86.cell 1
            clear t0 t1 t0a t1a hb5 ht5 own5 h8 hw6 hg8
            have hh := HNO.out i.toNat 0 (by omega) (by omega)
            rw [hq, show ((i.toNat : Nat) : Int) = i by omega, show (edgeL q).getD 0 (0, 0) = (q.f0, q.f1) from rfl] at hh
            obtain ⟨D, hD⟩ : ∃ D, D = datE (upto l1 i q (Int.toNat 0)) := ⟨_, rfl⟩
            obtain ⟨kl, hklE⟩ : ∃ kl, kl = kE (q.f0, q.f1) := ⟨_, rfl⟩
            rw [← hD] at own6
            rw [← hklE] at hkl
            change Maps.has (datE (upto l1 i q (Int.toNat 0))) _ = false at hh
            rw [← hD, ← hklE] at hh
            have HD := Lib.hid hD
            have HK := Lib.hid hklE
            clear hD hklE
            go_wp2_with (first | (at_lookup; refine wpList_lookup_own_ok_int _ rfl _ _ 62 rfl 77 3 .i64 lawE Try.underlying62 Try.underlying3 (zeroE _) w.heap.size _ D rfl own6 _ _ rfl hkl ?_; intro c hat hwc) | (at_mapUpdate; refine wpList_mapUpdate_own _ rfl _ _ _ 62 rfl 77 3 lawE Try.underlying62 _ w.heap.size _ D rfl own6 (by unfold maxLen; omega) _ _ _ rfl rfl hkl _ [] (plainElem_int Try.underlying3 (WalkArith.wf_i64 (by omega))) ?_; intro w7 own7 hgr7; have ht7 := ht6.grown hgr7 (by intro h; injection h with h; omega); have hb7 := hb6.grown hgr7 hb6.size (fun j hj => by cases hj; exact Nat.le_refl _)))
            go_roundw
            case rel =>
              refine ⟨0 + 1, rfl, by omega, by omega, hb7, ht7, ?_⟩
              rw [show upto l1 i q (Int.toNat (0 + 1)) = upto l1 i q (Int.toNat 0) ++ [((q.f0, q.f1), i)] by simp [upto, edgeL], datE_snoc, ← HD.out, ← HK.out]
              exact own7
            case measure => simp [intOf]
          · have t0 : wr.cell? ⟨gt, 1, none⟩ = some (.int .i64 q.f1) := ht5.cell 1
            have t1 : wr.cell? ⟨gt, 2, none⟩ = some (.int .i64 q.f2) := ht5.cell 2
            have t0a : (wr.alloc (.cells #[.int .i64 0, .int .i64 0] 77 (0, 0))).cell? ⟨gt, 1, none⟩ = some (.int .i64 q.f1) := (ht5.alloc _).cell 1
            have t1a : (wr.alloc (.cells #[.int .i64 0, .int .i64 0] 77 (0, 0))).cell? ⟨gt, 2, none⟩ = some (.int .i64 q.f2) := (ht5.alloc _).cell 2
            go_wp2_with fail
            have hkl := kE_key (a := q.f1) (b := q.f2) hwq.2.1 hwq.2.2
            have h8 := Blk.here wr 77 #[.int .i64 q.f1, .int .i64 q.f2]
            have own6 := (own5.alloc (.cells #[.int .i64 q.f1, .int .i64 q.f2] 77 (0, 0))).drew
            have hb6 := (below_alloc hb5 (.cells #[.int .i64 q.f1, .int .i64 q.f2] 77 (0, 0))).drew
            have ht6 := (ht5.alloc (.cells #[.int .i64 q.f1, .int .i64 q.f2] 77 (0, 0))).drew
            have h86 := h8.drew
            go_region
            have hs5 := hb5.size
            have hl5 := ht5.lt
            generalize hg8 : wr.heap.size = g8 at *
            generalize hw6 : (wr.alloc (.cells #[.int .i64 q.f1, .int .i64 q.f2] 77 (0, 0))).drew = w6 at *
            have z0 : w6.cell? ⟨g8, 0, none⟩ = some (.int .i64 q.f1) := h86.cell 0
            have z1 : w6.cell? ⟨g8, 1, none⟩ = some (.int .i64 q.f2) := h86.cell 1
            clear t0 t1 t0a t1a hb5 ht5 own5 h8 hw6 hg8
            have hh := HNO.out i.toNat 1 (by omega) (by omega)
            rw [hq, show ((i.toNat : Nat) : Int) = i by omega, show (edgeL q).getD 1 (0, 0) = (q.f1, q.f2) from rfl] at hh
            obtain ⟨D, hD⟩ : ∃ D, D = datE (upto l1 i q (Int.toNat 1)) := ⟨_, rfl⟩
            obtain ⟨kl, hklE⟩ : ∃ kl, kl = kE (q.f1, q.f2) := ⟨_, rfl⟩
            rw [← hD] at own6
            rw [← hklE] at hkl
            change Maps.has (datE (upto l1 i q (Int.toNat 1))) _ = false at hh
            rw [← hD, ← hklE] at hh
            have HD := Lib.hid hD
            have HK := Lib.hid hklE
            clear hD hklE
            go_wp2_with (first | (at_lookup; refine wpList_lookup_own_ok_int _ rfl _ _ 62 rfl 77 3 .i64 lawE Try.underlying62 Try.underlying3 (zeroE _) w.heap.size _ D rfl own6 _ _ rfl hkl ?_; intro c hat hwc) | (at_mapUpdate; refine wpList_mapUpdate_own _ rfl _ _ _ 62 rfl 77 3 lawE Try.underlying62 _ w.heap.size _ D rfl own6 (by unfold maxLen; omega) _ _ _ rfl rfl hkl _ [] (plainElem_int Try.underlying3 (WalkArith.wf_i64 (by omega))) ?_; intro w7 own7 hgr7; have ht7 := ht6.grown hgr7 (by intro h; injection h with h; omega); have hb7 := hb6.grown hgr7 hb6.size (fun j hj => by cases hj; exact Nat.le_refl _)))
            go_roundw
            case rel =>
              refine ⟨1 + 1, rfl, by omega, by omega, hb7, ht7, ?_⟩
              rw [show upto l1 i q (Int.toNat (1 + 1)) = upto l1 i q (Int.toNat 1) ++ [((q.f1, q.f2), i)] by simp [upto, edgeL], datE_snoc, ← HD.out, ← HK.out]
              exact own7
            case measure => simp [intOf]
          · have t0 : wr.cell? ⟨gt, 2, none⟩ = some (.int .i64 q.f2) := ht5.cell 2
            have t1 : wr.cell? ⟨gt, 0, none⟩ = some (.int .i64 q.f0) := ht5.cell 0
            have t0a : (wr.alloc (.cells #[.int .i64 0, .int .i64 0] 77 (0, 0))).cell? ⟨gt, 2, none⟩ = some (.int .i64 q.f2) := (ht5.alloc _).cell 2
            have t1a : (wr.alloc (.cells #[.int .i64 0, .int .i64 0] 77 (0, 0))).cell? ⟨gt, 0, none⟩ = some (.int .i64 q.f0) := (ht5.alloc _).cell 0
            go_wp2_with fail
            have hkl := kE_key (a := q.f2) (b := q.f0) hwq.2.2 hwq.1
            have h8 := Blk.here wr 77 #[.int .i64 q.f2, .int .i64 q.f0]
            have own6 := (own5.alloc (.cells #[.int .i64 q.f2, .int .i64 q.f0] 77 (0, 0))).drew
            have hb6 := (below_alloc hb5 (.cells #[.int .i64 q.f2, .int .i64 q.f0] 77 (0, 0))).drew
            have ht6 := (ht5.alloc (.cells #[.int .i64 q.f2, .int .i64 q.f0] 77 (0, 0))).drew
            have h86 := h8.drew
            go_region
            have hs5 := hb5.size
            have hl5 := ht5.lt
            generalize hg8 : wr.heap.size = g8 at *
            generalize hw6 : (wr.alloc (.cells #[.int .i64 q.f2, .int .i64 q.f0] 77 (0, 0))).drew = w6 at *
            have z0 : w6.cell? ⟨g8, 0, none⟩ = some (.int .i64 q.f2) := h86.cell 0
            have z1 : w6.cell? ⟨g8, 1, none⟩ = some (.int .i64 q.f0) := h86.cell 1
            clear t0 t1 t0a t1a hb5 ht5 own5 h8 hw6 hg8
            have hh := HNO.out i.toNat 2 (by omega) (by omega)
            rw [hq, show ((i.toNat : Nat) : Int) = i by omega, show (edgeL q).getD 2 (0, 0) = (q.f2, q.f0) from rfl] at hh
            obtain ⟨D, hD⟩ : ∃ D, D = datE (upto l1 i q (Int.toNat 2)) := ⟨_, rfl⟩
            obtain ⟨kl, hklE⟩ : ∃ kl, kl = kE (q.f2, q.f0) := ⟨_, rfl⟩
            rw [← hD] at own6
            rw [← hklE] at hkl
            change Maps.has (datE (upto l1 i q (Int.toNat 2))) _ = false at hh
            rw [← hD, ← hklE] at hh
            have HD := Lib.hid hD
            have HK := Lib.hid hklE
            clear hD hklE
            go_wp2_with (first | (at_lookup; refine wpList_lookup_own_ok_int _ rfl _ _ 62 rfl 77 3 .i64 lawE Try.underlying62 Try.underlying3 (zeroE _) w.heap.size _ D rfl own6 _ _ rfl hkl ?_; intro c hat hwc) | (at_mapUpdate; refine wpList_mapUpdate_own _ rfl _ _ _ 62 rfl 77 3 lawE Try.underlying62 _ w.heap.size _ D rfl own6 (by unfold maxLen; omega) _ _ _ rfl rfl hkl _ [] (plainElem_int Try.underlying3 (WalkArith.wf_i64 (by omega))) ?_; intro w7 own7 hgr7; have ht7 := ht6.grown hgr7 (by intro h; injection h with h; omega); have hb7 := hb6.grown hgr7 hb6.size (fun j hj => by cases hj; exact Nat.le_refl _)))
            go_roundw
            case rel =>
              refine ⟨2 + 1, rfl, by omega, by omega, hb7, ht7, ?_⟩
              rw [show upto l1 i q (Int.toNat (2 + 1)) = upto l1 i q (Int.toNat 2) ++ [((q.f2, q.f0), i)] by simp [upto, edgeL], datE_snoc, ← HD.out, ← HK.out]
              exact own7
            case measure => simp [intOf]
        · obtain rfl : k = 3 := by omega
          go_wp2_with fail
          go_roundw
          case rel =>
            refine ⟨i + 1, rfl, by omega, by omega, hb5, ?_⟩
            rw [show (i + 1).toNat = i.toNat + 1 by omega, show 3 * (i.toNat + 1) = 3 * i.toNat + Int.toNat 3 by rw [show Int.toNat 3 = 3 from rfl]; omega]
            have e : edgesU l1 (i.toNat + 1) = upto l1 i q (Int.toNat 3) := by
              rw [edgesU, hq, upto, show ((i.toNat : Nat) : Int) = i by omega]
              rfl
            rw [e]
            exact own5
          case measure => simp [intOf]; omega
    · obtain rfl : i = l1.length := by omega
      go_wp2_with fail
      go_ret
      rw [Int.toNat_natCast] at own3
      exact ⟨rfl, hb3, own3⟩
def wfE (e : Int × Int) : Prop := (Lit.int .i64 e.1).wf = true ∧ (Lit.int .i64 e.2).wf = true
theorem kE_isKey {e : Int × Int} (h : wfE e) : WideAt.IsKeyLit (kE e) := lawE.key (kE_key h.1 h.2)
theorem kE_inj {e f : Int × Int} (he : wfE e) (hf : wfE f) (h : kE e = kE f) : e = f := by
  have h1 := kE_key he.1 he.2
  have h2 := kE_key hf.1 hf.2
  have h3 : keyOf Try.prog 77 (.agg #[.int .i64 f.1, .int .i64 f.2]) = some (kE (e.1, e.2)) := by rw [h2]; exact congrArg some h.symm
  have h4 := lawE.inj h1 h3
  simp at h4
  exact Prod.ext h4.1 h4.2
def putE (D : DataW Unit) (p : (Int × Int) × Int) : DataW Unit := D.put (kE p.1) (.lit (.int .i64 p.2))
theorem has_fold (e : Int × Int) (he : wfE e) : ∀ (E : List ((Int × Int) × Int)) (D : DataW Unit), IsMap D → (∀ p ∈ E, wfE p.1) → (Maps.has (E.foldl putE D) (kE e) = true ↔ Maps.has D (kE e) = true ∨ e ∈ E.map (·.1)) := by
  intro E
  induction E with
  | nil => intro D hD hE; simp
  | cons p r ih =>
    intro D hD hE
    have hp := hE p (List.mem_cons_self ..)
    rw [List.foldl_cons, ih (putE D p) (hD.put _ _) (fun x hx => hE x (List.mem_cons_of_mem _ hx)), List.map_cons, List.mem_cons]
    by_cases h : e = p.1
    · have h1 : Maps.has (putE D p) (kE e) = true := by rw [h]; exact has_put_same hD (kE_isKey hp) _
      exact ⟨fun _ => .inr (.inl h), fun _ => .inl h1⟩
    · have h1 : Maps.has (putE D p) (kE e) = Maps.has D (kE e) := has_put_other (fun hk => h (kE_inj he hp hk)) _
      rw [h1]
      exact ⟨fun hx => hx.imp_right .inr, fun hx => hx.imp_right fun hy => hy.resolve_left h⟩
theorem has_datE {E : List ((Int × Int) × Int)} (hE : ∀ p ∈ E, wfE p.1) {e : Int × Int} (he : wfE e) : Maps.has (datE E) (kE e) = true ↔ e ∈ E.map (·.1) := by
  have h := has_fold e he E (.map []) isMap_empty hE
  have h0 : Maps.has (.map [] : DataW Unit) (kE e) = false := rfl
  rw [h0] at h
  exact h.trans ⟨fun hx => hx.resolve_left (by decide), .inr⟩
theorem at_fold (e : Int × Int) (he : wfE e) (z : DataW Unit) : ∀ (E : List ((Int × Int) × Int)) (D : DataW Unit), IsMap D → (∀ p ∈ E, wfE p.1) → (e ∉ E.map (·.1) → (E.foldl putE D).atKey (kE e) z = D.atKey (kE e) z) ∧ ∀ i, (E.map (·.1)).Nodup → (e, i) ∈ E → (E.foldl putE D).atKey (kE e) z = .lit (.int .i64 i) := by
  intro E
  induction E with
  | nil => intro D hD hE; exact ⟨fun _ => rfl, fun i _ h => nomatch h⟩
  | cons p r ih =>
    intro D hD hE
    have hp := hE p (List.mem_cons_self ..)
    obtain ⟨h1, h2⟩ := ih (putE D p) (hD.put _ _) (fun x hx => hE x (List.mem_cons_of_mem _ hx))
    refine ⟨fun hn => ?_, fun i hnd hi => ?_⟩
    · rw [List.map_cons, List.mem_cons, not_or] at hn
      rw [List.foldl_cons, h1 hn.2]
      exact atKey_put_other (fun hk => hn.1 (kE_inj he hp hk)) _ _
    · rw [List.map_cons, List.nodup_cons] at hnd
      rcases List.mem_cons.1 hi with rfl | hi
      · rw [List.foldl_cons, h1 hnd.1]
        exact atKey_put_same hD (kE_isKey hp) _ _
      · rw [List.foldl_cons]
        exact h2 i hnd.2 hi
theorem at_datE {E : List ((Int × Int) × Int)} (hE : ∀ p ∈ E, wfE p.1) {e : Int × Int} (he : wfE e) {i : Int} (hnd : (E.map (·.1)).Nodup) (hi : (e, i) ∈ E) (z : DataW Unit) : (datE E).atKey (kE e) z = .lit (.int .i64 i) := by
  exact (at_fold e he z E (.map []) isMap_empty hE).2 i hnd hi
end Go.Proofs.Ytgkncgiemfbglaa.PT
