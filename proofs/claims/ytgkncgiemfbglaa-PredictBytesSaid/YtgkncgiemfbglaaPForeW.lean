/- predict.Fore at the chapter's example. -/
import Derived.Test.YtgkncgiemfbglaaPRests
namespace Go.Proofs.Ytgkncgiemfbglaa.PT
open Go Go.RowKit Go.Maps Go.WideMaps Go.Proofs.Ytgkncgiemfbglaa.Mem Go.Proofs.Ytgkncgiemfbglaa.PPrd Go.Proofs.YtgkncgiemfbglaaW.PrintWords Go.Proofs.YtgkncgiemfbglaaW.PrintLast Go.Proofs.YtgkncgiemfbglaaW.PrintMore
set_option linter.unusedVariables false
set_option linter.unnecessarySimpa false
set_option linter.unusedSimpArgs false
set_option maxRecDepth 100000
/-- Where a number comes first in a row. -/
def firstAt (l : List Int) (v r : Int) : Prop := (r = -1 ∧ ∀ i : Int, 0 ≤ i → i < l.length → rd l i ≠ v) ∨ (0 ≤ r ∧ r < l.length ∧ rd l r = v ∧ ∀ i : Int, 0 ≤ i → i < r → rd l i ≠ v)
theorem c40 (w : World) (A : Option Addr) (l : List Int) (c : Nat) (v r : Int) (hr : Kd.C (Kd.int .i64) w A l.length l) (hl : l.length ≤ 1000) (hv : firstAt l v r) :
    Calls Try.prog 40 #[.slice A l.length c, .int .i64 v] w fun e w' => e = .returned (.int .i64 r) ∧ Below w.heap.size w w' := by
  go_enter Try.func40, Try.ntmps40
  go_wp2_with fail
  go_loopw [8] (fun u wr => wr = w ∧ ∃ i : Int, u = .int .i64 i ∧ 0 ≤ i ∧ i ≤ l.length ∧ (r = -1 ∨ i ≤ r)) (fun u _ => l.length - (intOf u).toNat)
  case atStart => exact ⟨rfl, 0, rfl, by omega, by omega, by rcases hv with ⟨h, _⟩ | ⟨h, _⟩ <;> omega⟩
  case round =>
    obtain ⟨rfl, i, rfl, hi0, hi1, hi⟩ := hrel
    by_cases hlt : i < l.length
    · have dl : decide (i < (l.length : Int)) = true := decide_eq_true hlt
      obtain ⟨ad1, e1, y0⟩ := Kd.at_int hr i hi0 hlt
      cases e1
      have p1 := eq_true hi0
      have p2 := eq_true hlt
      by_cases he : v = rd l i
      · have hri : r = i := by
          rcases hv with ⟨_, h⟩ | ⟨h0, h1, h2, h3⟩
          · exact absurd he.symm (h i hi0 hlt)
          · by_cases hh : i < r
            · exact absurd he.symm (h3 i hi0 hh)
            · omega
        subst hri
        clear hv hi
        rw [← he] at y0
        clear he
        go_wp2_with fail
        go_ret
        exact ⟨rfl, Below.refl _ _⟩
      · have db : (v == rd l i) = false := by simpa using he
        have hi' : r = -1 ∨ i + 1 ≤ r := by
          rcases hv with ⟨h, _⟩ | ⟨h0, h1, h2, h3⟩
          · exact .inl h
          · rcases hi with h | h
            · omega
            · by_cases hh : i = r
              · subst hh; exact absurd h2.symm he
              · exact .inr (by omega)
        have HV := Lib.hid hv
        have HI := Lib.hid hi'
        have HE := Lib.hid he
        clear hv hi he hi'
        generalize rd l i = n at *
        go_wp2_with fail
        go_roundw
        case rel => exact ⟨trivial, i + 1, rfl, by omega, by omega, HI.out⟩
        case measure => simp [intOf]; omega
    · obtain rfl : i = l.length := by omega
      have hr1 : r = -1 := by
        rcases hv with ⟨h, _⟩ | ⟨h0, h1, h2, h3⟩
        · exact h
        · omega
      subst hr1
      clear hv hi
      go_wp2_with fail
      go_ret
      exact ⟨rfl, Below.refl _ _⟩
theorem c26 (w : World) (A : Option Addr) (l : List Int) (c : Nat) (v r : Int) (hr : Kd.C (Kd.int .i64) w A l.length l) (hl : l.length ≤ 1000) (hv : firstAt l v r) :
    Calls Try.prog 26 #[.slice A l.length c, .int .i64 v] w fun e w' => e = .returned (.bool (decide (r ≥ 0))) ∧ Below w.heap.size w w' := by
  have hc := Lib.hid (c40 w A l c v r hr hl hv)
  clear hv
  go_enter Try.func26, Try.ntmps26
  go_wp2_with fail
  refine hc.out.mono ?_
  rintro e w2 ⟨rfl, hb2⟩
  go_wp2_with fail
  go_ret
  exact ⟨rfl, hb2⟩
theorem row3' (w : World) (a b c : Int) : Kd.C (Kd.int .i64) (w.alloc (.cells #[.int .i64 a, .int .i64 b, .int .i64 c] 36 (0, 0))) (some ⟨w.heap.size, 0, none⟩) 3 [a, b, c] := by
  have hB := Blk.here w 36 #[.int .i64 a, .int .i64 b, .int .i64 c]
  refine ⟨rfl, by simp [maxLen], fun _ => ⟨_, rfl, fun j p hj => ?_⟩⟩
  match j, hj with
  | 0, hj => injection hj with hj; subst hj; exact ⟨_, rfl, rfl, fun i u hu => by cases i with | zero => injection hu with hu; subst hu; simpa [Addr.add] using hB.cell 0 | succ i => simp at hu⟩
  | 1, hj => injection hj with hj; subst hj; exact ⟨_, rfl, rfl, fun i u hu => by cases i with | zero => injection hu with hu; subst hu; simpa [Addr.add, Kd.int, Kd.scalar] using hB.cell 1 | succ i => simp at hu⟩
  | 2, hj => injection hj with hj; subst hj; exact ⟨_, rfl, rfl, fun i u hu => by cases i with | zero => injection hu with hu; subst hu; simpa [Addr.add, Kd.int, Kd.scalar] using hB.cell 2 | succ i => simp at hu⟩
  | j + 3, hj => simp at hj
theorem c25 (w : World) (a b c v r : Int) (g : Nat) (hg : w.cell? ⟨g, 0, none⟩ = some (.int .i64 v)) (hv : firstAt [a, b, c] v r) :
    Calls Try.prog 25 #[.agg #[.int .i64 a, .int .i64 b, .int .i64 c], .pointer (some ⟨g, 0, none⟩)] w fun e w' => e = .returned (.bool (decide (r ≥ 0))) ∧ Below w.heap.size w w' := by
  have hb1 := (Below.refl w.heap.size w).alloc (Nat.le_refl _) (.cells #[.int .i64 a, .int .i64 b, .int .i64 c] 36 (0, 0))
  have hg1 := cell_alloc_ w (.cells #[.int .i64 a, .int .i64 b, .int .i64 c] 36 (0, 0)) hg
  have hc := Lib.hid (c26 (w.alloc (.cells #[.int .i64 a, .int .i64 b, .int .i64 c] 36 (0, 0))).drew _ [a, b, c] 3 v r (Kd.C_drew (row3' w a b c)) (by simp) hv)
  clear hv
  go_enter Try.func25, Try.ntmps25
  go_wp2_with fail
  go_region_with (first | (go_at_call 26; refine hc.out.mono ?_; rintro e w6 ⟨rfl, hb6⟩))
  go_wp2_with fail
  go_ret
  exact ⟨rfl, hb1.drew.trans (hb6.mono (by have := hb1.size; exact this))⟩
theorem c24 (w : World) (A : Option Addr) (c : Nat) (hr : Kd.C k36 w A 2 ex) (g : Nat) (hg : w.cell? ⟨g, 0, none⟩ = some (.int .i64 3)) :
    Calls Try.prog 24 #[.slice A 2 c, .func (.func 25) #[] #[.pointer (some ⟨g, 0, none⟩)]] w fun e w' => e = .returned (.int .i64 1) ∧ Below w.heap.size w w' := by
  have hc := Lib.hid (c25 w 0 1 2 3 (-1) g hg (.inl ⟨rfl, fun i h0 h1 => by
    change i < 3 at h1
    obtain rfl | rfl | rfl : i = 0 ∨ i = 1 ∨ i = 2 := by omega
    all_goals decide⟩))
  obtain ⟨ad1, e1, y0, y1, y2⟩ := at_T36 hr 0 (by omega) (by omega)
  cases e1
  have ha : ad1.add 0 = ad1 := by simp [Addr.add]
  rw [show Int.toNat 0 * 3 = 0 from rfl, ha] at y0 y1 y2
  change w.cell? _ = some (.int .i64 0) at y0
  change w.cell? _ = some (.int .i64 1) at y1
  change w.cell? _ = some (.int .i64 2) at y2
  go_enter Try.func24, Try.ntmps24
  go_wp2_with fail
  go_loopw [8] (fun u wr => Below w.heap.size w wr ∧ ((u = .int .i64 0 ∧ wr = w) ∨ u = .int .i64 1)) (fun u _ => 2 - (intOf u).toNat)
  case atStart => exact ⟨Below.refl _ _, .inl ⟨rfl, rfl⟩⟩
  case round =>
    obtain ⟨hb, ⟨rfl, rfl⟩ | rfl⟩ := hrel
    · go_wp2_with fail
      refine hc.out.mono ?_
      rintro e w2 ⟨rfl, hb2⟩
      go_wp2_with fail
      go_roundw
      case rel => exact ⟨hb2, .inr rfl⟩
      case measure => simp [intOf]
    · obtain ⟨ad2, e2, z0, z1, z2⟩ := at_T36 (Kd.C_below hr hb) 1 (by omega) (by omega)
      cases e2
      clear hc y0 y1 y2
      rw [show Int.toNat 1 * 3 = 3 from rfl, show ad1.add 3 = ⟨ad1.block, ad1.off + 3, none⟩ by simp [Addr.add]] at z0 z1 z2
      dsimp only at z1 z2
      change wr.cell? _ = some (.int .i64 1) at z0
      change wr.cell? _ = some (.int .i64 0) at z1
      change wr.cell? _ = some (.int .i64 3) at z2
      have hc := Lib.hid (c25 wr 1 0 3 3 2 g ((hb.cell (World.block_lt_of_cell? w _ hg)).trans hg) (.inr ⟨by decide, by decide, by decide, fun i h0 h1 => by
        obtain rfl | rfl : i = 0 ∨ i = 1 := by omega
        all_goals decide⟩))
      go_wp2_with fail
      refine hc.out.mono ?_
      rintro e w2 ⟨rfl, hb2⟩
      go_wp2_with fail
      go_ret
      exact ⟨rfl, hb.trans (hb2.mono hb.size)⟩
theorem fore13 (w : World) (A : Option Addr) (c : Nat) (hr : Kd.C k36 w A 2 ex) (hc : 2 ≤ c) :
    Calls Try.prog 13 #[.slice A 2 c, .int .i64 3] w fun e w' => e = .returned (.agg #[.int .i64 0, .int .i64 1, .int .i64 2]) ∧ Below w.heap.size w w' := by
  obtain ⟨ad1, e1, _⟩ := at_T36 hr 0 (by omega) (by omega)
  cases e1
  have hb1 := (Below.refl w.heap.size w).alloc (Nat.le_refl _) (.cells #[.int .i64 3] 3 (0, 0))
  have hb2 := hb1.alloc hb1.size (.cells #[.int .i64 0, .int .i64 0, .int .i64 0] 36 (0, 0))
  have hz1 := (Blk.here w 3 #[.int .i64 3]).alloc (.cells #[.int .i64 0, .int .i64 0, .int .i64 0] 36 (0, 0))
  have hz2 := Blk.here (w.alloc (.cells #[.int .i64 3] 3 (0, 0))) 36 #[.int .i64 0, .int .i64 0, .int .i64 0]
  rw [show (w.alloc (.cells #[.int .i64 3] 3 (0, 0))).heap.size = w.heap.size + 1 by simp] at hz2
  go_enter Try.func13, Try.ntmps13
  go_wp2_with fail
  generalize (w.alloc (.cells #[.int .i64 3] 3 (0, 0))).alloc (.cells #[.int .i64 0, .int .i64 0, .int .i64 0] 36 (0, 0)) = w2 at *
  have h24 := Lib.hid (c24 w2 (some ad1) c (Kd.C_below hr hb2) w.heap.size (hz1.cell 0))
  refine h24.out.mono ?_
  rintro e w3 ⟨rfl, hb3⟩
  have hb13 := hb2.trans (hb3.mono hb2.size)
  have hz13 := hz1.below hb3
  have hz23 := hz2.below hb3
  clear h24 hb1 hb2 hz1 hz2 hb3
  go_wp2_with fail
  have hbd := hb13.drew
  have hzd1 := hz13.drew
  have hzd2 := hz23.drew
  generalize hgm : w.heap.size = gm at *
  clear hb13 hz13 hz23
  have k3 : w3.drew.cell? ⟨gm, 0, none⟩ = some (.int .i64 3) := hzd1.cell 0
  have hrd : Kd.C k36 w3.drew (some ad1) 2 ex := Kd.C_below hr (by rw [hgm]; exact hbd)
  have hT := Lib.hid (table28 w3.drew (some ad1) ex c hrd hc ex_wf (by decide) ex_no)
  have hgs := hbd.size
  go_region_held3 (fun w' => w'.cell? ⟨gm, 0, none⟩ = some (.int .i64 3)) (first | exact k3 | exact k4 | exact k5 | exact k6 | (fail "keep"))
    (first | (go_at_call 28; refine hT.out.mono ?_; rintro e w4 ⟨rfl, hb4, own4⟩; have k4 : w4.cell? ⟨gm, 0, none⟩ = some (.int .i64 3) := (hzd1.below hb4).cell 0; have hF : Hid (Calls Try.prog 27 #[.slice (some ad1) 2 c, .map (some w3.drew.heap.size), .int .i64 3, .int .i64 1] w4 fun e w' => e = .returned (.agg #[.int .i64 0, .int .i64 1, .int .i64 2]) ∧ Below w4.heap.size w4 w') := Lib.hid (fore_c w4 (some ad1) ex c (Kd.C_below hrd hb4) _ _ _ own4 3 1 (by omega) (by omega) (by omega) (by decide) (by decide) rfl (ex_has (i := 0) (by decide)) 0 (fun z => ex_at (by decide) z) (by omega) (by omega) rfl rfl)) | (go_at_call 27; refine hF.out.mono ?_; rintro e w5 ⟨rfl, hb5⟩; have k5 : w5.cell? ⟨gm, 0, none⟩ = some (.int .i64 3) := ((hzd1.below hb4).below hb5).cell 0; have hz5 := (hzd2.below hb4).below hb5; have q0 := hz5.cell 0; have q1 := hz5.cell 1; have q2 := hz5.cell 2; have f0 := hz5.frozen 0; have f1 := (hz5.set_ 0 (.int .i64 0)).frozen 1; have f2 := ((hz5.set_ 0 (.int .i64 0)).set_ 1 (.int .i64 1)).frozen 2; have k6 := (((((hzd1.below hb4).below hb5).far (p := ⟨gm + 1, 0, none⟩) (by show gm ≠ gm + 1; omega) (.int .i64 0)).far (p := ⟨gm + 1, 1, none⟩) (by show gm ≠ gm + 1; omega) (.int .i64 1)).far (p := ⟨gm + 1, 2, none⟩) (by show gm ≠ gm + 1; omega) (.int .i64 2)).cell 0))
  have hb45 := hb4.trans (hb5.mono hb4.size)
  have hbw := hbd.trans (hb45.mono (by rw [← hgm]; exact hgs))
  have hfin := ((hbw.setCell (p := ⟨gm + 1, 0, none⟩) (by show gm ≤ gm + 1; omega) (.int .i64 0)).setCell (p := ⟨gm + 1, 1, none⟩) (by show gm ≤ gm + 1; omega) (.int .i64 1)).setCell (p := ⟨gm + 1, 2, none⟩) (by show gm ≤ gm + 1; omega) (.int .i64 2)
  have c5 := ((hz5.set_ 0 (.int .i64 0)).set_ 1 (.int .i64 1)).set_ 2 (.int .i64 2)
  have c0 := c5.cell 0
  have c1 := c5.cell 1
  have c2 := c5.cell 2
  clear q0 q1 q2 k3 k4 k5 k6 hF hT own4 f0 f1 f2 hz5 hzd1 hzd2 hbw hb45 hb4 hb5 hbd
  generalize ((w5.setCell ⟨gm + 1, 0, none⟩ (.int .i64 0)).setCell ⟨gm + 1, 1, none⟩ (.int .i64 1)).setCell ⟨gm + 1, 2, none⟩ (.int .i64 2) = w6 at *
  go_wp2_with fail
  refine bodyPost_ret (v := .agg #[.int .i64 0, .int .i64 1, .int .i64 2]) (by rw [results, show Try.f13.results = #[.cell 4 36] from rfl]; go_simp) rfl ?_
  exact ⟨rfl, by rw [hgm]; exact hfin⟩
end Go.Proofs.Ytgkncgiemfbglaa.PT
