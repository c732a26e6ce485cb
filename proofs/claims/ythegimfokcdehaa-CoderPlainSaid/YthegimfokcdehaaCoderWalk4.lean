/- The coder walked: begun, ready, code, end. -/
import Derived.Test.YthegimfokcdehaaCoderWalk3
namespace Go.Proofs.Ythegimfokcdehaa.CW
open Go Go.RowKit Go.Proofs.Ythegimfokcdehaa.Mem Go.Proofs.Ythegimfokcdehaa.CM Go.Proofs.Ythegimfokcdehaa.MW Go.Proofs.Ythegimfokcdehaa.PCod Go.Proofs.YthegimfokcdehaaW.PrintWords Go.Proofs.YthegimfokcdehaaW.PrintLast Go.Proofs.YthegimfokcdehaaW.PrintMore
set_option linter.unusedVariables false
set_option linter.unusedSimpArgs false
def freshC (l : List Int) : List (List Int) := l.map fun n => List.replicate n.toNat 1
def Sizes (l : List Int) : Prop := l.length ≤ 16 ∧ ∀ n ∈ l, 1 ≤ n ∧ n ≤ 256
theorem fresh_mods {l : List Int} (h : ∀ n ∈ l, 1 ≤ n ∧ n ≤ 256) : Mods (freshC l) := by
  intro c hc
  obtain ⟨n, hn, rfl⟩ := List.mem_map.1 hc
  obtain ⟨h1, h2⟩ := h n hn
  rw [List.length_replicate]
  refine ⟨⟨fun x hx => by rw [List.eq_of_mem_replicate hx]; omega, ?_, by rw [List.length_replicate], by omega⟩, by omega⟩
  have hs : ∀ m : Nat, (List.replicate m (1 : Int)).sum = m := by
    intro m
    induction m with
    | zero => rfl
    | succ m ih => rw [List.replicate_succ, List.sum_cons, ih]; omega
  rw [hs]
  omega
theorem getD_snoc_lt {α : Type} (l : List α) (x d : α) {i : Nat} (h : i < l.length) : (l ++ [x]).getD i d = l.getD i d := by
  rw [List.getD_eq_getElem?_getD, List.getD_eq_getElem?_getD, List.getElem?_append_left h]
theorem getD_snoc_eq {α : Type} (l : List α) (x d : α) {i : Nat} (h : i = l.length) : (l ++ [x]).getD i d = x := by
  subst h
  rw [List.getD_eq_getElem?_getD, List.getElem?_append_right (Nat.le_refl _), Nat.sub_self]
  rfl
theorem IsMs.nil (w : World) (B : Nat) : IsMs w B (.slice none 0 0) [] [] :=
  ⟨rfl, Kd.R_nil _ _ _ _ _, fun i hi => absurd hi (by simp), fun i j hi => absurd hi (by simp)⟩
theorem IsMs.push {w : World} {B : Nat} {mv' : Value} {ps : List (Nat × Nat)} {C : List (List Int)} {bp bs : Nat} {c : List Int} (hl : ps.length = C.length) (hR : Kd.R ptrK 87 w B (fun _ => True) mv' (ps.map Prod.fst ++ [bp]))
    (hmod : ∀ i, i < C.length → IsM w (ps.getD i (0, 0)).1 (ps.getD i (0, 0)).2 (C.getD i []) (C.getD i []).sum ∧ B ≤ (ps.getD i (0, 0)).1 ∧ B ≤ (ps.getD i (0, 0)).2) (hinj : ∀ i j, i < C.length → j < C.length → i ≠ j → (ps.getD i (0, 0)).1 ≠ (ps.getD j (0, 0)).1 ∧ (ps.getD i (0, 0)).2 ≠ (ps.getD j (0, 0)).2)
    (hm : IsM w bp bs c c.sum) (h1 : B ≤ bp) (h2 : B ≤ bs) (hnew : ∀ i, i < C.length → (ps.getD i (0, 0)).1 < bp ∧ (ps.getD i (0, 0)).2 < bs) : IsMs w B mv' (ps ++ [(bp, bs)]) (C ++ [c]) := by
  refine ⟨by rw [List.length_append, List.length_append, hl]; rfl, by rw [List.map_append]; exact hR, fun i hi => ?_, fun i j hi hj hne => ?_⟩
  · rw [List.length_append, List.length_singleton] at hi
    by_cases h : i < C.length
    · rw [getD_snoc_lt _ _ _ (by omega), getD_snoc_lt _ _ _ h]
      exact hmod i h
    · rw [getD_snoc_eq _ _ _ (by omega), getD_snoc_eq _ _ _ (by omega)]
      exact ⟨hm, h1, h2⟩
  · rw [List.length_append, List.length_singleton] at hi hj
    by_cases h : i < C.length
    · by_cases h' : j < C.length
      · rw [getD_snoc_lt _ _ _ (by omega), getD_snoc_lt _ _ _ (by omega)]
        exact hinj i j h h' hne
      · rw [getD_snoc_lt _ _ _ (by omega), getD_snoc_eq _ _ _ (by omega)]
        obtain ⟨a, b⟩ := hnew i h
        exact ⟨by show _ ≠ bp; omega, by show _ ≠ bs; omega⟩
    · have h' : j < C.length := by omega
      rw [getD_snoc_eq _ _ _ (by omega), getD_snoc_lt _ _ _ (by omega)]
      obtain ⟨a, b⟩ := hnew j h'
      exact ⟨by show bp ≠ _; omega, by show bs ≠ _; omega⟩
theorem IsMs.lt {w : World} {B : Nat} {mv : Value} {ps : List (Nat × Nat)} {C : List (List Int)} (h : IsMs w B mv ps C) {i : Nat} (hi : i < C.length) : (ps.getD i (0, 0)).1 < w.heap.size ∧ (ps.getD i (0, 0)).2 < w.heap.size := ⟨(h.mod i hi).1.head.lt, (h.mod i hi).1.row.lt⟩
theorem IsMs.below {w w' : World} {B : Nat} {mv : Value} {ps : List (Nat × Nat)} {C : List (List Int)} (h : IsMs w B mv ps C) (hb : Below w.heap.size w w') : IsMs w' B mv ps C :=
  CW.IsMs.ft h (Ft.of_below 0 [] hb) (by decide) (by decide) (by decide)
theorem ones_ok (n : Nat) (h1 : 1 ≤ n) (h2 : n ≤ 256) : Ok n (List.replicate n 1) ∧ (List.replicate n (1 : Int)).sum = n := by
  have hs : (List.replicate n (1 : Int)).sum = n := by
    clear h1 h2
    induction n with
    | zero => rfl
    | succ n ih => rw [List.replicate_succ, List.sum_cons, ih]; omega
  refine ⟨⟨fun c hc => ?_, by omega, by simp, h2⟩, hs⟩
  rw [List.eq_of_mem_replicate hc]
  omega
theorem info87 : (Try.prog.info? 87).map (fun i => (i.zero, i.size, i.bytes)) = some (some (.pointer none), ptrK.sz, 8) := by kernel_rfl
def BegunPost (l : List Int) (w : World) (e : Ending) (w' : World) : Prop :=
  (Sizes l ∧ ∃ mv ps, e = .returned (.tuple #[.agg #[mv, .int .u32 4294967295], .bool true]) ∧ IsMs w' w.heap.size mv ps (freshC l) ∧ Below w.heap.size w w') ∨
  (¬ Sizes l ∧ ∃ A n c, e = .returned (.tuple #[.agg #[.slice A n c, .int .u32 4294967295], .bool false]) ∧ Below w.heap.size w w')
set_option maxHeartbeats 2000000 in
set_option maxRecDepth 100000 in
theorem begun22 (w : World) (A : Option Addr) (l : List Int) (c : Nat) (hr : Kd.C (Kd.int .i64) w A l.length l) (hl : l.length ≤ 1000) (hwf : ∀ n ∈ l, -9223372036854775808 ≤ n ∧ n < 9223372036854775808) :
    Calls Try.prog 22 #[.slice A l.length c] w (BegunPost l w) := by
  have hb := ((Below.refl w.heap.size w).alloc (Nat.le_refl _) (.cells #[.slice none 0 0, .int .u32 0] 54 (0, 0))).alloc (by simp) (.cells #[.slice none 0 0, .int .u32 4294967295] 54 (0, 0))
  by_cases hlen : 16 < l.length
  · have d0 : decide (16 < (l.length : Int)) = true := decide_eq_true (by omega)
    have d1 : decide (16 < l.length) = true := decide_eq_true (by omega)
    go_enter Try.func22, Try.ntmps22
    go_wp2
    refine bodyPost_ret (v := .tuple #[.agg #[.slice none 0 0, .int .u32 4294967295], .bool false]) (by rw [results, show Try.f22.results = #[.cell 2 54, .tmp 3] from rfl]; go_simp) rfl ?_
    exact .inr ⟨fun h => by have := h.1; omega, _, _, _, rfl, ((Below.refl w.heap.size w).alloc (Nat.le_refl _) _).alloc (by simp) _⟩
  · have d0 : decide (16 < (l.length : Int)) = false := decide_eq_false (by omega)
    have d1 : decide (16 < l.length) = false := decide_eq_false (by omega)
    have hx0 := (Blk.here w 54 #[.slice none 0 0, .int .u32 0]).alloc (.cells #[.slice none 0 0, .int .u32 4294967295] 54 (0, 0))
    have hx1 := Blk.here (w.alloc (.cells #[.slice none 0 0, .int .u32 0] 54 (0, 0))) 54 #[.slice none 0 0, .int .u32 4294967295]
    rw [show (w.alloc (.cells #[.slice none 0 0, .int .u32 0] 54 (0, 0))).heap.size = w.heap.size + 1 by simp] at hx1
    have HR := Lib.hid hr
    have HWF := Lib.hid hwf
    clear hr hwf
    go_enter Try.func22, Try.ntmps22
    go_wp2
    generalize (w.alloc (.cells #[.slice none 0 0, .int .u32 0] 54 (0, 0))).alloc (.cells #[.slice none 0 0, .int .u32 4294967295] 54 (0, 0)) = w1 at *
    obtain ⟨B, hB⟩ : ∃ B, B = w.heap.size := ⟨_, rfl⟩
    rw [← hB] at hb hx0 hx1 ⊢
    have HB := Lib.hid hB
    clear hB
    go_loopw [16] (fun v wr => ∃ k : Nat, k ≤ l.length ∧ v = .int .i64 k ∧ Hid (∀ n ∈ l.take k, 1 ≤ n ∧ n ≤ 256) ∧ Below B w wr ∧ Blk wr B 54 #[.slice none 0 0, .int .u32 0] ∧ ∃ mv ps, Blk wr (B + 1) 54 #[mv, .int .u32 4294967295] ∧ IsMs wr B mv ps (freshC (l.take k))) (fun v _ => l.length - (intOf v).toNat)
    case atStart => exact ⟨0, Nat.zero_le _, rfl, Lib.hid (by simp), hb, hx0, _, [], hx1, IsMs.nil _ _⟩
    case round =>
      clear hb hx0 hx1
      obtain ⟨k, hk, rfl, hgood, hb, hx0, mv, ps, hx1, hM⟩ := hrel
      have x10 : wr.cell? ⟨B + 1, 0, none⟩ = some mv := hx1.cell 0
      have x11 : wr.cell? ⟨B + 1, 1, none⟩ = some (.int .u32 4294967295) := hx1.cell 1
      have f10 := hx1.frozen 0
      have f00 := hx0.frozen 0
      have f01 := hx0.frozen 1
      have x00 : wr.cell? ⟨B, 0, none⟩ = some (.slice none 0 0) := hx0.cell 0
      have x01 : wr.cell? ⟨B, 1, none⟩ = some (.int .u32 0) := hx0.cell 1
      have hsB := hx1.lt
      by_cases hlt : k < l.length
      · have hb' : Below w.heap.size w wr := by rw [← HB.out]; exact hb
        obtain ⟨ad, e1, hcell⟩ := Kd.at_int (Kd.C_below HR.out hb') (k : Int) (by omega) (by omega)
        cases e1
        rw [Int.toNat_natCast] at hcell
        have hg : rd l (k : Int) = l[k] := by unfold rd; rw [Int.toNat_natCast, List.getD_eq_getElem?_getD, List.getElem?_eq_getElem hlt]; rfl
        have hmem : l[k] ∈ l := List.getElem_mem hlt
        have htk : l.take (k + 1) = l.take k ++ [l[k]] := List.take_succ_eq_append_getElem hlt
        have hw2 := HWF.out _ hmem
        rw [hg] at hcell
        generalize l[k] = n at *
        have HTK := Lib.hid htk
        have HMEM := Lib.hid hmem
        have d2 : 0 ≤ (k : Int) := by omega
        have d3 : (k : Int) < (l.length : Int) := by omega
        have d4 : decide (k < l.length) = true := decide_eq_true hlt
        clear hg htk hmem hb'
        by_cases hn : 1 ≤ n ∧ n ≤ 256
        · obtain ⟨n, rfl⟩ := Int.eq_ofNat_of_zero_le (show 0 ≤ n by omega)
          go_wp2_with fail
          refine (new_ok _ n (by omega) (by omega)).mono ?_
          rintro e w2 ⟨bp, bs, rfl, hm2, hbp, hbs, hb2⟩
          have hM2 := hM.below hb2
          have y1 := hx1.below hb2
          have y0 := hx0.below hb2
          have hlt1 := Lib.hid (show ∀ i, i < (freshC (l.take k)).length → (ps.getD i (0, 0)).1 < wr.heap.size ∧ (ps.getD i (0, 0)).2 < wr.heap.size from fun i hi => hM.lt hi)
          have hs2 := hb2.size
          have hb3 : Below B w w2 := hb.trans (hb2.mono (by omega))
          have z10 : w2.cell? ⟨B + 1, 0, none⟩ = some mv := y1.cell 0
          have zf := y1.frozen 0
          have hbpl := hm2.head.lt
          go_wp2_with (first | (at_builtin; go_must (refine Kd.R_append ptrK (w0 := w2) (W := w2) B rfl (.tmp 29) (.tmp 31) 51 87 (.pointer none) 8 rfl Try.underlying51 info87 rfl (by decide) (by decide) mv (ps.map Prod.fst) bp [.pointer (some ⟨bp, 0, none⟩)] (fun _ => True) (fun _ => False) rfl rfl rfl (fun _ hk => hk.elim) (fun _ _ => trivial) hM2.row (Below.refl _ _) (by omega) (by rw [List.length_map, hM2.len]; simp [freshC]; omega) ?_); intro v1 w3 hR1 hb4 hg1 hat1; have y1b := y1.grown hg1 (Kd.R_ne hM2.row y1 (by decide)); have y0b := y0.grown hg1 (Kd.R_ne hM2.row y0 (by decide)); have zz := y1b.cell 0; have zzf := y1b.frozen 0; obtain ⟨A2, c2, e2⟩ := Kd.R_slice hR1; subst e2))
          go_roundw
          case rel =>
            obtain ⟨inner, hown⟩ := Kd.R_own hM2.row
            have hF1 : Ft B [87, 54] w2 w3 := (Ft.refl B _ w2).grown hg1 (fun j hj => by
              obtain ⟨h1, cs, h2⟩ := own_row hown j hj
              exact ⟨h1, cs, 87, h2, by decide⟩)
            have hF2 := hF1.setCell (p := ⟨B + 1, 0, none⟩) y1b (by decide) (Nat.le_succ B) (.slice A2 (ps.map Prod.fst ++ [bp]).length c2)
            have hR2 := Kd.R_set hR1 y1b (by decide) 0 (.slice A2 (ps.map Prod.fst ++ [bp]).length c2)
            have hy2 := y1b.set_ 0 (.slice A2 (ps.map Prod.fst ++ [bp]).length c2)
            have hy0 := y0b.far (p := ⟨B + 1, 0, none⟩) (by show B ≠ B + 1; omega) (.slice A2 (ps.map Prod.fst ++ [bp]).length c2)
            have hlen2 : (ps.map Prod.fst ++ [bp]).length = ps.length + 1 := by simp
            have hM3 := IsMs.push (bp := bp) (bs := bs) (c := List.replicate n 1) hM2.len hR2 (fun i hi => ⟨CW.IsM.ft (hM2.mod i hi).1 hF2 (by decide) (by decide), (hM2.mod i hi).2⟩) hM2.inj (CW.IsM.ft (by have := hm2; rwa [show ((n : Nat) : Int) = (List.replicate n (1 : Int)).sum from (ones_ok n (by omega) (by omega)).2.symm] at this) hF2 (by decide) (by decide)) (by omega) (by omega) (fun i hi => by obtain ⟨a, b⟩ := hlt1.out i hi; omega)
            have hfc : freshC (l.take (k + 1)) = freshC (l.take k) ++ [List.replicate n 1] := by
              rw [HTK.out]; unfold freshC; rw [List.map_append, List.map_singleton, Int.toNat_natCast]
            refine ⟨k + 1, by omega, by go_num, Lib.hid ?_, (hb3.trans hb4).setCell (by show B ≤ B + 1; omega) _, ?_, .slice A2 (ps.length + 1) c2, ps ++ [(bp, bs)], ?_, ?_⟩
            · intro m hm
              rw [HTK.out] at hm
              rcases List.mem_append.1 hm with hm | hm
              · exact hgood.out m hm
              · rw [List.mem_singleton] at hm
                subst hm
                omega
            · rw [hlen2] at hy0
              exact hy0
            · rw [hlen2] at hy2
              exact hy2
            · rw [hfc]
              rw [hlen2] at hM3
              exact hM3
          case measure => simp [intOf]; omega
        · have hmem := HMEM.out
          have hbad : n < 1 ∨ 256 < n := by omega
          obtain ⟨A2, c2, rfl⟩ := hM.slice
          go_wp2_with fail
          refine (new_bad _ n hbad).mono ?_
          rintro e w2 ⟨rfl, rfl⟩
          go_wp2_with fail
          refine bodyPost_ret (v := .tuple #[.agg #[.slice A2 (freshC (l.take k)).length c2, .int .u32 4294967295], .bool false]) (by rw [results, show Try.f22.results = #[.cell 2 54, .tmp 3] from rfl]; go_simp) rfl ?_
          refine .inr ⟨fun h => by have := h.2 n hmem; omega, _, _, _, rfl, ?_⟩
          rw [← HB.out]
          exact (hb.setCell (by show B ≤ B; omega) _).setCell (by show B ≤ B; omega) _
      · obtain rfl : k = l.length := by omega
        obtain ⟨A2, c2, rfl⟩ := hM.slice
        go_wp2
        refine bodyPost_ret (v := .tuple #[.agg #[.slice A2 (freshC (l.take l.length)).length c2, .int .u32 4294967295], .bool true]) (by rw [results, show Try.f22.results = #[.cell 2 54, .tmp 3] from rfl]; go_simp) rfl ?_
        have hg := hgood.out
        have hF := ((Ft.refl B [54] wr).setCell (p := ⟨B, 0, none⟩) hx0 (by decide) (Nat.le_refl B) (.slice A2 (freshC (l.take l.length)).length c2)).setCell (p := ⟨B, 1, none⟩) (hx0.set_ 0 _) (by decide) (Nat.le_refl B) (.int .u32 4294967295)
        have hM2 := CW.IsMs.ft hM hF (by decide) (by decide) (by decide)
        rw [List.take_length] at hg hM2 ⊢
        refine .inl ⟨⟨by omega, hg⟩, _, ps, rfl, ?_, ?_⟩
        · rw [← HB.out]; exact hM2
        · rw [← HB.out]; exact (hb.setCell (by show B ≤ B; omega) _).setCell (by show B ≤ B; omega) _
/-- The coder made: with the digit that may be carried into. -/
theorem ready23 (w : World) (mv : Value) (R : Int) (hmv : ∃ A n c, mv = .slice A n c) : Calls Try.prog 23 #[.agg #[mv, .int .u32 R]] w fun e w' => ∃ g, e = .returned (.pointer (some ⟨g, 0, none⟩)) ∧ w.heap.size ≤ g ∧ IsE w' g mv R (.slice none 0 0) [] 0 1 0 ∧ Below w.heap.size w w' := by
  obtain ⟨A, n, c, rfl⟩ := hmv
  go_enter Try.func23, Try.ntmps23
  go_wp2
  go_ret
  have h1 := Blk.here (w.alloc (.cells #[.slice A n c, .int .u32 R] 54)) 78 #[.slice A n c, .int .u32 R, .slice none 0 0, .int .u8 0, .int .i64 1, .int .u64 0]
  rw [show (w.alloc (.cells #[.slice A n c, .int .u32 R] 54)).heap.size = w.heap.size + 1 by simp] at h1
  exact ⟨w.heap.size + 1, rfl, by omega, ⟨h1, Kd.R_nil _ _ _ _ _⟩, ((Below.refl w.heap.size w).alloc (Nat.le_refl _) _).alloc (by simp) _⟩
theorem IsE.ft {B : Nat} {ts : List TypeId} {w w' : World} {g : Nat} {mv ov : Value} {R c l : Int} {o : List Int} {h : Nat} (hE : IsE w g mv R ov o c h l) (hF : Ft B ts w w') (h1 : 78 ∉ ts) (h2 : 5 ∉ ts) : IsE w' g mv R ov o c h l :=
  ⟨hF.blk hE.blk h1, Ft.R hF hE.row (fun q hq => by
    have : q = 5 := by simpa [Kd.int, Kd.scalar] using hq
    rw [this]
    exact h2)⟩
theorem IsE.below {w w' : World} {g : Nat} {mv ov : Value} {R c l : Int} {o : List Int} {h : Nat} (hE : IsE w g mv R ov o c h l) (hb : Below w.heap.size w w') : IsE w' g mv R ov o c h l := hE.ft (Ft.of_below 0 [] hb) (by decide) (by decide)
theorem IsE.setR {w0 w : World} {g : Nat} {mv ov : Value} {R c l : Int} {o : List Int} {h : Nat} (hF : Ft g [78, 5] w0 w) (hE : IsE w g mv R ov o c h l) (R' : Int) : IsE (w.setCell ⟨g, 1, none⟩ (.int .u32 R')) g mv R' ov o c h l ∧ Ft g [78, 5] w0 (w.setCell ⟨g, 1, none⟩ (.int .u32 R')) := by
  refine ⟨⟨?_, Kd.R_set hE.row hE.blk (by decide) 1 _⟩, hF.setCell (p := ⟨g, 1, none⟩) hE.blk (by decide) (Nat.le_refl g) _⟩
  have := hE.blk.set_ 1 (.int .u32 R')
  exact this
theorem sh_len (o : List Int) (c : Int) {h : Nat} (l : Int) (hh : 1 ≤ h) : (sh o c h l).1.length + (sh o c h l).2.2.1 = o.length + h + 1 ∧ 1 ≤ (sh o c h l).2.2.1 := by
  unfold sh
  split
  · rw [if_pos (by omega)]
    simp only [List.length_append, List.length_replicate, List.length_singleton]
    omega
  · simp only
    omega
theorem sh_c (o : List Int) {c : Int} (h : Nat) (l : Int) (h0 : 0 ≤ c) (h1 : c < 256) : 0 ≤ (sh o c h l).2.1 ∧ (sh o c h l).2.1 < 256 := by
  unfold sh
  split
  · simp only; omega
  · exact ⟨h0, h1⟩
end Go.Proofs.Ythegimfokcdehaa.CW
