import Derived.Test.YtckemiefcdpofaaDoorBorderT
import Derived.Test.YtckemiefcdpofaaDoorEdges
namespace Go.Proofs.YtckemiefcdpofaaDoor.ED
open Go Go.RowKit Go.Maps Go.WideMaps Go.Sort Go.Proofs.YtckemiefcdpofaaDoor.OR Go.Proofs.YtckemiefcdpofaaDoor.Mem Go.Proofs.YtckemiefcdpofaaDoor.PMsr Go.Proofs.YtckemiefcdpofaaDoorW.PrintWords Go.Proofs.YtckemiefcdpofaaDoorW.PrintLast Go.Proofs.YtckemiefcdpofaaDoorW.PrintMore
open Go.Proofs.YtckemiefcdpofaaDoor.MM (Gl datE edgesU kE wfE lawE key_inv)
set_option linter.unusedVariables false
set_option linter.unnecessarySimpa false
set_option linter.unusedSimpArgs false
set_option maxRecDepth 100000
def Bord (D : DataW Unit) (left : Lit → Bool) (L : List (Int × Int)) : Prop := L.Nodup ∧ ∀ x, x ∈ L ↔ (wfE x ∧ Maps.has D (kE x) = true ∧ left (kE x) = false ∧ Maps.has D (kE (x.2, x.1)) = false)
theorem bord_old {D : DataW Unit} {left : Lit → Bool} {L : List (Int × Int)} (h : Bord D left L) {a c : Int} (hw : wfE (a, c)) (ho : Maps.has D (kE (c, a)) = true) : Bord D (fun z => left z && !z.sameKey (kE (a, c))) L := by
  refine ⟨h.1, fun x => ?_⟩
  rw [h.2 x]
  constructor
  · rintro ⟨h1, h2, h3, h4⟩
    exact ⟨h1, h2, by simp [h3], h4⟩
  · rintro ⟨h1, h2, h3, h4⟩
    refine ⟨h1, h2, ?_, h4⟩
    cases hl : left (kE x) with
    | false => rfl
    | true =>
      dsimp only at h3
      rw [hl] at h3
      have hs : (kE x).sameKey (kE (a, c)) = true := by simpa using h3
      have hx := MM.kE_inj h1 hw (WideAt.sameKey_eq hs)
      subst hx
      rw [ho] at h4
      cases h4
theorem bord_new {D : DataW Unit} {left : Lit → Bool} {L : List (Int × Int)} (h : Bord D left L) {a c : Int} (hw : wfE (a, c)) (hd : Maps.has D (kE (a, c)) = true) (hl : left (kE (a, c)) = true) (ho : Maps.has D (kE (c, a)) = false) : Bord D (fun z => left z && !z.sameKey (kE (a, c))) (L ++ [(a, c)]) := by
  have hself : (kE (a, c)).sameKey (kE (a, c)) = true := WideAt.sameKey_self (MM.kE_isKey hw)
  refine ⟨?_, fun x => ?_⟩
  · rw [List.nodup_append]
    refine ⟨h.1, by simp, fun x hx y hy => ?_⟩
    rw [List.mem_singleton] at hy
    subst hy
    rintro rfl
    have := ((h.2 _).1 hx).2.2.1
    rw [hl] at this
    cases this
  · rw [List.mem_append, List.mem_singleton, h.2 x]
    constructor
    · rintro (⟨h1, h2, h3, h4⟩ | rfl)
      · exact ⟨h1, h2, by simp [h3], h4⟩
      · exact ⟨hw, hd, by simp [hself], ho⟩
    · rintro ⟨h1, h2, h3, h4⟩
      dsimp only at h3
      cases hx : left (kE x) with
      | false => exact .inl ⟨h1, h2, rfl, h4⟩
      | true =>
        rw [hx] at h3
        exact .inr (MM.kE_inj h1 hw (WideAt.sameKey_eq (by simpa using h3)))
theorem sub_len {α : Type} [DecidableEq α] : ∀ {m l : List α}, m.Nodup → (∀ x ∈ m, x ∈ l) → m.length ≤ l.length := by
  intro m
  induction m with
  | nil => intro l _ _; exact Nat.zero_le _
  | cons a m ih =>
    intro l hn hs
    have ha := hs a (List.mem_cons_self ..)
    rw [List.nodup_cons] at hn
    have h1 := ih (l := l.erase a) hn.2 fun x hx => by
      have hne : x ≠ a := fun h => hn.1 (h ▸ hx)
      exact (List.mem_erase_of_ne hne).2 (hs x (List.mem_cons_of_mem _ hx))
    rw [List.length_erase_of_mem ha] at h1
    have := List.length_pos_of_mem ha
    rw [List.length_cons]
    omega
theorem edgesU_len (T : List S36) : ∀ n, (edgesU T n).length = 3 * n
  | 0 => rfl
  | n + 1 => by rw [edgesU, List.length_append, edgesU_len T n, List.length_map]; show _ + 3 = _; omega
theorem told_ok {P : List S55} {T : List S36} (ht : MR.Told P T 0) : P.length ≤ 4000 ∧ T.length ≤ 8000 ∧ MR.Plain P T ∧ MR.Single T := by
  generalize h0 : (0 : Int) = r at ht
  cases ht with
  | long h => cases h0
  | arg _ h => cases h0
  | edge _ _ h => cases h0
  | vertex _ _ _ h => cases h0
  | ok h hp hs _ => exact ⟨h.1, h.2, hp, hs⟩
theorem bord_mem {P : List S55} {T : List S36} (ht : MR.Told P T 0) {left : Lit → Bool} {L : List (Int × Int)} (h : Bord (datE (edgesU T T.length)) left L) : ∀ x ∈ L, x ∈ (edgesU T T.length).map (·.1) := by
  obtain ⟨h1, h2, hp, hs⟩ := told_ok ht
  intro x hx
  obtain ⟨hw, h3, _⟩ := (h.2 x).1 hx
  exact (MM.has_datE (MC.edgesU_wf hp (by omega) (Nat.le_refl _)) hw).1 h3
theorem bord_len {P : List S55} {T : List S36} (ht : MR.Told P T 0) {left : Lit → Bool} {L : List (Int × Int)} (h : Bord (datE (edgesU T T.length)) left L) : (L.length : Int) ≤ 100000 := by
  have h1 := sub_len h.1 (bord_mem ht h)
  rw [List.length_map, edgesU_len] at h1
  have h2 := (told_ok ht).2.1
  omega
theorem bord_iff {P : List S55} {T : List S36} (ht : MR.Told P T 0) {L : List (Int × Int)} (h : Bord (datE (edgesU T T.length)) (fun _ => false) L) : ∀ x, x ∈ L ↔ x ∈ (edgesU T T.length).map (·.1) ∧ (x.2, x.1) ∉ (edgesU T T.length).map (·.1) := by
  obtain ⟨h1, h2, hp, hs⟩ := told_ok ht
  have hwf := MC.edgesU_wf hp (by omega) (Nat.le_refl T.length)
  intro x
  rw [h.2 x]
  constructor
  · rintro ⟨hw, h3, _, h4⟩
    refine ⟨(MM.has_datE hwf hw).1 h3, fun h5 => ?_⟩
    rw [(MM.has_datE hwf ⟨hw.2, hw.1⟩).2 h5] at h4
    cases h4
  · rintro ⟨h3, h4⟩
    obtain ⟨p, hp1, rfl⟩ := List.mem_map.1 h3
    have hw := hwf p hp1
    refine ⟨hw, (MM.has_datE hwf hw).2 h3, rfl, ?_⟩
    cases h5 : Maps.has (datE (edgesU T T.length)) (kE (p.1.2, p.1.1)) with
    | false => rfl
    | true => exact absurd ((MM.has_datE hwf ⟨hw.2, hw.1⟩).1 h5) h4
set_option maxHeartbeats 4000000 in
theorem border17 (P : List S55) (T : List S36) (ht : MR.Told P T 0) (A0 : Option Addr) (c0 : Nat) (A1 : Option Addr) (c1 : Nat) (w : World) (hr0 : Kd.C k55 w A0 P.length P) (hc0 : P.length ≤ c0) (hr1 : Kd.C k36 w A1 T.length T) (hc1 : T.length ≤ c1) (hG : Gl w) :
    Calls Tryd.prog 17 #[.agg #[.slice A0 P.length c0, .slice A1 T.length c1]] w fun e w' => ∃ v L, e = .returned (.tuple #[v, .int .i64 0]) ∧ Kd.R k52 52 w' w.heap.size (fun _ => True) v (sorted L) ∧ Bord (datE (edgesU T T.length)) (fun _ => false) L ∧ Below w.heap.size w w' := by
  have hm1 := Blk.here w 25 #[.slice A0 P.length c0, .slice A1 T.length c1]
  have hb1 := (Below.refl w.heap.size w).alloc (Nat.le_refl _) (.cells #[.slice A0 P.length c0, .slice A1 T.length c1] 25 (0, 0))
  have x0 := hm1.cell 0
  have x1 := hm1.cell 1
  have hC := Lib.hid (MC.check28 P T 0 ht A0 c0 A1 c1 (w.alloc (.cells #[.slice A0 P.length c0, .slice A1 T.length c1] 25 (0, 0))) (Kd.C_alloc hr0 _) hc0 (Kd.C_alloc hr1 _) hc1 (hG.alloc _))
  go_enter Tryd.func17, Tryd.ntmps17
  go_wp2_with fail
  refine hC.out.mono ?_
  rintro e w2 ⟨rfl, hb2⟩
  clear hC x0 x1
  have hm2 := hm1.below hb2
  have hbw2 := hb1.trans (hb2.mono hb1.size)
  have x0 := hm2.cell 0
  have x1 := hm2.cell 1
  clear hm1 hb1 hb2
  have hTb := Lib.hid (MC.table_ok P T ht A0 c0 A1 c1 w2 (Kd.C_below hr1 hbw2) hc1 (hG.below hbw2))
  go_wp2_with fail
  refine hTb.out.mono ?_
  rintro e w3 ⟨rfl, hb3, own3⟩
  have hbw3 := hbw2.trans (hb3.mono hbw2.size)
  have hs2 := hbw2.size
  clear hTb x0 x1 hb3 hm2
  have hBL := Lib.hid fun (left : Lit → Bool) (L : List (Int × Int)) (h : Bord (datE (edgesU T T.length)) left L) => bord_len ht h
  generalize hD : datE (edgesU T T.length) = D at *
  generalize hbm : w2.heap.size + 1 = b at *
  have hlt3 := own3.lt
  go_wp2_with (first | (at_range; refine wpList_range_own _ rfl _ 56 rfl 52 3 lawE Tryd.underlying56 _ b _ _ rfl own3 ?_; intro w4 hrg4 hg4 hs4))
  go_frame
  have hbw4 := hbw3.grown hg4 hbw3.size (fun j hj => by cases hj)
  generalize hr0' : w3.heap.size = r0 at *
  go_loopw [7] (fun v7 wr => ∃ (left : Lit → Bool) (cnt : Nat) (L : List (Int × Int)), wr.ranges Tryd.prog 52 (plainElem Tryd.prog 3) b r0 (3 * T.length) D left cnt ∧ Kd.R k52 52 wr (r0 + 1) (fun k => r0 < k) v7 L ∧ Below w.heap.size w wr ∧ r0 + 1 ≤ wr.heap.size ∧ Aside0 (Bord D left L)) (fun _ wr => wr.rangeLeft b r0)
  case atStart => exact ⟨_, _, [], hrg4, Kd.R_nil _ _ _ _ _, hbw4, by omega, ⟨List.nodup_nil, fun x => ⟨fun h => (nomatch h), fun h => by rw [h.2.1] at h; exact absurd h.2.2.1 (by decide)⟩⟩⟩
  case round =>
    obtain ⟨left, cnt, L, hrg, hR, hb5, hs5, hB⟩ := hrel
    go_wp2_with (first
      | (at_next; refine wpList_next_ranges _ rfl _ rfl 52 lawE (plainElem Tryd.prog 3) (fun x : Int × Int => .agg #[.int .i64 x.1, .int .i64 x.2]) (Value.int .i64) (fun key kl hk => by obtain ⟨x, h, _⟩ := key_inv key kl hk; exact ⟨x, h⟩) (fun v y hv => by obtain ⟨c, rfl, _⟩ := plainElem_int_inv Tryd.underlying3 hv; exact ⟨c, rfl⟩) b r0 _ D left cnt rfl hrg ?_ ?_))
    · intro hc0' hl0
      have hBf : Bord D (fun _ => false) L := ⟨hB.out.1, fun x => by rw [hB.out.2 x, hl0 (kE x)]⟩
      replace hBf := Lib.hid hBf
      have hw3 := hbw3.size
      have hLl : (L.length : Int) ≤ 100000 := hBL.out _ _ hBf.out
      by_cases hL0 : L.length = 0
      · obtain ⟨A6, c6, rfl⟩ := Kd.R_slice hR
        have hLn : L = [] := List.eq_nil_of_length_eq_zero hL0
        rw [hL0] at hR ⊢
        have hS := Lib.hid (sort35_none A6 c6 (.func (.func 36) #[] #[]) wr)
        have hsl : sorted L = L := by rw [hLn]; simp [sorted]
        replace hsl := Lib.hid hsl
        replace hR := Lib.hid hR
        clear hLn hB hl0
        go_wp2_with fail
        refine hS.out.mono ?_
        rintro e w5 ⟨rfl, rfl⟩
        go_wp2_with fail
        go_ret2
        exact ⟨.slice A6 0 c6, L, rfl, by rw [hsl.out]; exact Kd.R_mono (Kd.R_lower hR.out (by omega)) (fun _ _ => trivial), by rw [hD]; exact hBf.out, hb5⟩
      · obtain ⟨g, cap, rfl, hg, _, hrow⟩ := rowE_of hR (by omega)
        have hS := sort35 g 0 cap L.toArray wr (holds_of hrow) (by obtain ⟨cur, hc, _⟩ := hrow; exact Blk.lt (w := wr) (t := 52) (cs := cur) hc) (by simp; omega)
        rw [show L.toArray.size = L.length by simp, show L.toArray.toList = L by simp] at hS
        replace hS := Lib.hid hS
        have hrowH := Lib.hid hrow
        have hsl := Lib.hid (sorted_len L)
        clear hrow hR hB hl0
        go_wp2_with fail
        refine hS.out.mono ?_
        rintro e w5 ⟨rfl, nq, os, rfl⟩
        have hrow5 := Lib.hid (sorted_row hrowH.out (sorted L) hsl.out nq os)
        have hb6 := sorted_below (w := wr) (g := g) (base := r0 + 1) hg hs5 (sorted L) nq os
        generalize sortWorldK encE 2 wr g 0 nq (sorted L).toArray os = w5 at *
        go_wp2_with fail
        go_ret2
        refine ⟨.slice (some ⟨g, 0, none⟩) L.length cap, L, rfl, ?_, by rw [hD]; exact hBf.out, hb5.trans (hb6.mono (by omega))⟩
        have := rowE_to (base := w.heap.size) (ok := fun _ => True) hrow5.out (by omega) trivial
        rw [hsl.out] at this
        exact this
    · intro a c z kl dv ps w6 cnt6 hkey hleft hv hat hrg6 hlt6 hg6 hs6 hen
      obtain ⟨⟨a', c'⟩, hac, hwa, hwc, hkl⟩ := key_inv _ _ hkey
      injection hac with hac
      simp only [Array.mk.injEq, List.cons.injEq, Value.int.injEq, true_and, and_true] at hac
      obtain ⟨rfl, rfl⟩ := hac
      have hklo := MM.kE_key hwc hwa
      have hb6 := hb5.grown hg6 hb5.size (fun j hj => by cases hj; omega)
      have hR6 := Kd.R_grown hR hg6 (fun k hk e => by injection e with e; omega)
      have hs7 : r0 + 1 ≤ w6.heap.size := by omega
      have hB8 := Blk.here w6 52 #[.int .i64 a, .int .i64 c]
      have hrg8 := hrg6.alloc (.cells #[.int .i64 a, .int .i64 c] 52 (0, 0))
      have own8 := hrg8.owns
      have hR8 := Kd.R_alloc hR6 (.cells #[.int .i64 a, .int .i64 c] 52 (0, 0))
      have hb8 := hb6.alloc hb6.size (.cells #[.int .i64 a, .int .i64 c] 52 (0, 0))
      have z0 := hB8.cell 0
      have z1 := hB8.cell 1
      replace hkl := Lib.hid hkl
      replace hkey := Lib.hid hkey
      replace hleft := Lib.hid hleft
      replace hat := Lib.hid hat
      replace hv := Lib.hid hv
      replace hD := Lib.hid hD
      cases hh : Maps.has D (kE (c, a)) with
      | true =>
        go_wp2_with (first | (at_lookup; refine wpList_lookup_own_ok_int _ rfl _ _ 56 rfl 52 3 .i64 lawE Tryd.underlying56 Tryd.underlying3 (MM.zeroE _) b _ D rfl own8 _ _ rfl hklo ?_; intro c2 hat2 hwc2))
        go_roundw
        case rel => exact ⟨_, cnt6, L, hrg8, hR8, hb8, by simp; omega, ⟨by rw [hkl.out]; exact bord_old hB.out ⟨hwa, hwc⟩ hh⟩⟩
        case measure => rw [hrg8.left_eq, hrg.left_eq]; exact hlt6
      | false =>
        obtain ⟨A6, c6, rfl⟩ := Kd.R_slice hR8
        have hLl : (L.length : Int) ≤ 100000 := hBL.out _ _ hB.out
        have hLh := Lib.hid hLl
        have hsz8 : (w6.alloc (.cells #[.int .i64 a, .int .i64 c] 52 (0, 0))).heap.size = w6.heap.size + 1 := by simp
        go_wp2_with (first | (at_lookup; refine wpList_lookup_own_ok_int _ rfl _ _ 56 rfl 52 3 .i64 lawE Tryd.underlying56 Tryd.underlying3 (MM.zeroE _) b _ D rfl own8 _ _ rfl hklo ?_; intro c2 hat2 hwc2) | (at_builtin; go_must (refine Kd.R_append k52 (w0 := w6.alloc (.cells #[.int .i64 a, .int .i64 c] 52 (0, 0))) (W := w6.alloc (.cells #[.int .i64 a, .int .i64 c] 52 (0, 0))) (r0 + 1) rfl (.tmp 39) (.tmp 41) 31 52 (.agg #[.int .i64 0, .int .i64 0]) 16 rfl Tryd.underlying31 info52 rfl (by decide) (by decide) (.slice A6 L.length c6) L (a, c) [.int .i64 a, .int .i64 c] (fun k => r0 < k) (fun _ => False) rfl (by rw [hsz8, hs6]; rfl) (k52_mkM _ _ _ _) (fun _ hk => hk.elim) (fun k hk => by rw [hsz8] at hk; omega) hR8 (Below.refl _ _) (by rw [hsz8]; omega) (by omega) ?_); intro v18 w18 hR18 hb18 hg18 hat18))
        have hnb : ∀ k, (Value.slice A6 L.length c6).ownBlock = some k → r0 < k := hR8.1
        have hrg18 := hrg8.kept hg18 (fun e => by have := hnb b e.symm; omega) (fun e => by have := hnb r0 e.symm; omega)
        have hs3 := hbw3.size
        have hs18 := hb18.size
        go_roundw
        case rel => exact ⟨_, cnt6, L ++ [(a, c)], hrg18, hR18, hb8.trans (hb18.mono (by omega)), by omega, ⟨by rw [hkl.out]; exact bord_new hB.out ⟨hwa, hwc⟩ (by rw [← hkl.out]; exact Maps.has_true_of_atKey hat.out) (by rw [← hkl.out]; exact hleft.out) hh⟩⟩
        case measure => rw [hrg18.left_eq, hrg.left_eq]; exact hlt6
end Go.Proofs.YtckemiefcdpofaaDoor.ED
