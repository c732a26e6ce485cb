/- arc.Decode, walked: its reader behind a pointer, and what it makes. -/
import Derived.Test.YtmfeokapjmpjfaaMem
import Derived.Test.YtmfeokapjmpjfaaPArcx2
import Derived.Test.YtmfeokapjmpjfaaPArcx3
import Derived.Test.YtmfeokapjmpjfaaPArcx5
namespace Go.Proofs.Ytmfeokapjmpjfaa.ArcW
open Go Go.RowKit Go.Proofs.Ytmfeokapjmpjfaa.Mem Go.Proofs.Ytmfeokapjmpjfaa.PArc Go.Proofs.YtmfeokapjmpjfaaW.PrintWords Go.Proofs.YtmfeokapjmpjfaaW.PrintLast Go.Proofs.YtmfeokapjmpjfaaW.PrintMore
set_option linter.unusedVariables false
set_option linter.unusedSimpArgs false

/-- The reader behind a pointer. -/
def IsR (w : World) (g : Nat) (A : Option Addr) (n c : Nat) (at_ : Int) (bad : Bool) : Prop := Blk w g 56 #[.slice A n c, .int .i64 at_, .bool bad]

theorem get_q (w : World) (n : Nat) (A : Option Addr) (l : List Int) (c : Nat) (at_ x q e : Int) (k : Nat) (hG : vint_Get.f k l at_ = some (x, q, e)) (hr : Kd.C (Kd.int .u8) w A l.length l) (hc : l.length ≤ c) :
    Calls Try.prog 34 #[.slice A l.length c, .int .i64 at_] (w.drewN n) fun e' w'' => e' = .returned (.tuple #[.int .u64 x, .int .i64 q, .int .i64 e]) ∧ ∃ n, w'' = w.drewN n := by
  refine Calls.quiet_of ((vint_Get.calls k _ _ l at_ x q e _ (Kd.C_drewN hr _) hc hG).mono ?_)
  rintro e' w' ⟨rfl, hd⟩
  exact ⟨rfl, hd.out⟩

/-- What a number is, and the reader behind it. G: what vint.Get tells. -/
def numS (G : Int → Int × Int × Int) (at_ : Int) (bad : Bool) : Int × Int × Bool := if bad then (0, at_, true) else ((G at_).1, (G at_).2.1, ((G at_).2.2 != 0))

theorem num_calls (w : World) (g : Nat) (A : Option Addr) (l : List Int) (c : Nat) (at_ : Int) (bad : Bool) (G : Int → Int × Int × Int) (hG : ∀ a, ∃ k, vint_Get.f k l a = some (G a)) (hr : Kd.C (Kd.int .u8) w A l.length l) (hc : l.length ≤ c) (h : IsR w g A l.length c at_ bad) :
    Calls Try.prog 26 #[.pointer (some ⟨g, 0, none⟩)] w fun e w' => e = .returned (.int .u64 (numS G at_ bad).1) ∧ IsR w' g A l.length c (numS G at_ bad).2.1 (numS G at_ bad).2.2 ∧ Only w w' g g := by
  obtain ⟨k, hG⟩ := hG at_
  have c0 : w.cell? ⟨g, 0, none⟩ = some (.slice A l.length c) := h.cell 0
  have c1 : w.cell? ⟨g, 1, none⟩ = some (.int .i64 at_) := h.cell 1
  have c2 : w.cell? ⟨g, 2, none⟩ = some (.bool bad) := h.cell 2
  have f1 : w.frozen? ⟨g, 1, none⟩ = false := h.frozen 1
  have f2 : w.frozen? ⟨g, 2, none⟩ = false := h.frozen 2
  cases bad with
  | true =>
    go_enter Try.func26, Try.ntmps26
    go_wp2
    go_ret
    exact ⟨rfl, h, Only.refl _ _ _⟩
  | false =>
    obtain ⟨⟨x, q, e⟩, hx⟩ : ∃ t, t = G at_ := ⟨_, rfl⟩
    rw [← hx] at hG
    have hn : numS G at_ false = (x, q, (e != 0)) := by unfold numS; rw [← hx]; rfl
    rw [hn]
    have HG := Lib.hid hG
    have HR := Lib.hid hr
    clear hG hx hn hr
    go_enter Try.func26, Try.ntmps26
    go_wp2_with fail
    go_quiet (first | (go_at_call 34; exact get_q w _ A l c at_ x q e k HG.out HR.out hc))
    go_wp2
    go_ret
    refine ⟨rfl, ?_, ?_⟩
    · have hb := (h.drewN nq).set_ 2 (.bool (e != 0))
      exact hb.set_ 1 (.int .i64 q)
    · exact (((Only.refl w g g).drewN nq).setCell (p := ⟨g, 2, none⟩) (.inl rfl) _).setCell (p := ⟨g, 1, none⟩) (.inl rfl) _

def farV (x : Int) : Bool := decide (x < -8589934592) || decide (x > 8589934592)
theorem far_calls (w : World) (x : Int) : Calls Try.prog 36 #[.int .i64 x] w fun e w' => e = .returned (.bool (farV x)) ∧ w' = w := by
  unfold farV
  by_cases h1 : x < -8589934592
  · have d1 : decide (x < -8589934592) = true := decide_eq_true h1
    go_enter Try.func36, Try.ntmps36
    go_wp2
    go_ret
    simp [d1]
  · have d1 : decide (x < -8589934592) = false := decide_eq_false h1
    go_enter Try.func36, Try.ntmps36
    go_wp2
    go_ret
    simp [d1]

def zagV (u : Int) : Int := Go.bits .xor .i64 (wrap64 (u / 2)) (wrap64 (-(wrap64 (Go.bits .and .u64 u 1))))
theorem zagV_eq (u : Int) : vint_Zag.f u = some (zagV u) := rfl
def rightV (p : S48) : Bool := (arc_right.f p.f0 p.f1 p.f2).getD false
theorem rightV_eq (p : S48) : arc_right.f p.f0 p.f1 p.f2 = some (rightV p) := by
  unfold rightV arc_right.f
  split <;> (try split) <;> (try split) <;> (try split) <;> (try split) <;> rfl

/-- What a point is, and the reader behind it. -/
def pointS (G : Int → Int × Int × Int) (at_ : Int) (bad : Bool) (p : S48) : S48 × Int × Bool :=
  let a := numS G at_ bad
  let b := numS G a.2.1 a.2.2
  if (b.2.2 || farV (zagV a.1) || farV (zagV b.1)) = true then (p, b.2.1, true) else (⟨wrap64 (p.f0 + zagV a.1), wrap64 (p.f1 + zagV b.1), 0⟩, b.2.1, !rightV ⟨wrap64 (p.f0 + zagV a.1), wrap64 (p.f1 + zagV b.1), 0⟩)

theorem pointS_eq {G : Int → Int × Int × Int} {at_ : Int} {bad : Bool} {p : S48} {n1 at1 n2 at2 : Int} {bad1 bad2 : Bool} (ha : (n1, at1, bad1) = numS G at_ bad) (hb : (n2, at2, bad2) = numS G at1 bad1) :
    pointS G at_ bad p = if (bad2 || farV (zagV n1) || farV (zagV n2)) = true then (p, at2, true) else (⟨wrap64 (p.f0 + zagV n1), wrap64 (p.f1 + zagV n2), 0⟩, at2, !rightV ⟨wrap64 (p.f0 + zagV n1), wrap64 (p.f1 + zagV n2), 0⟩) := by
  unfold pointS
  dsimp only
  rw [← ha]
  dsimp only
  rw [← hb]

theorem only_new {a b : World} {bp bs : Nat} (h : Only a b bp bs) {q : Addr} (hq : a.heap.size ≤ q.block) (u : Value) : Only a (b.setCell q u) bp bs :=
  ⟨h.os, h.tape, h.output, by simpa [World.setCell] using h.size, fun i hi h1 h2 => (Below.heap_setCell b q u i (by omega)).trans (h.block i hi h1 h2)⟩

theorem _root_.Go.RowKit.Below.only {a b : World} (h : Below a.heap.size a b) (bp bs : Nat) : Only a b bp bs := ⟨h.os, h.tape, h.output, h.size, fun k hk _ _ => h.block k hk⟩

theorem point_calls (w0 w : World) (g : Nat) (A : Option Addr) (l : List Int) (c : Nat) (at_ : Int) (bad : Bool) (p : S48) (G : Int → Int × Int × Int) (hG : ∀ a, ∃ k, vint_Get.f k l a = some (G a)) (hr : Kd.C (Kd.int .u8) w0 A l.length l) (hc : l.length ≤ c) (h : IsR w g A l.length c at_ bad) (hb : Below w0.heap.size w0 w) (hg : w0.heap.size ≤ g) :
    Calls Try.prog 27 #[.pointer (some ⟨g, 0, none⟩), .agg #[.int .i64 p.f0, .int .i64 p.f1, .int .i64 p.f2]] w fun e w' => e = .returned (.agg #[.int .i64 (pointS G at_ bad p).1.f0, .int .i64 (pointS G at_ bad p).1.f1, .int .i64 (pointS G at_ bad p).1.f2]) ∧ IsR w' g A l.length c (pointS G at_ bad p).2.1 (pointS G at_ bad p).2.2 ∧ Only w w' g g := by
  have hlt : g < w.heap.size := h.lt
  obtain ⟨S, hS⟩ : ∃ S, S = pointS G at_ bad p := ⟨_, rfl⟩
  rw [← hS]
  have HS := Lib.hid hS
  clear hS
  go_enter Try.func27, Try.ntmps27
  go_wp2_with fail
  refine (num_calls _ g A l c at_ bad G hG ?hr hc ?h).mono ?_
  case hr => exact Kd.C_alloc (Kd.C_alloc (Kd.C_below hr hb) _) _
  case h => exact (h.alloc _).alloc _
  have hN := Blk.here (w.alloc (.cells #[.int .i64 p.f0, .int .i64 p.f1, .int .i64 p.f2] 48)) 48 #[.int .i64 0, .int .i64 0, .int .i64 0]
  have hM := (Blk.here w 48 #[.int .i64 p.f0, .int .i64 p.f1, .int .i64 p.f2]).alloc (.cells #[.int .i64 0, .int .i64 0, .int .i64 0] 48)
  have ho1 := ((Only.refl w g g).alloc (.cells #[.int .i64 p.f0, .int .i64 p.f1, .int .i64 p.f2] 48)).alloc (.cells #[.int .i64 0, .int .i64 0, .int .i64 0] 48)
  rintro e w2 ⟨rfl, h2, ho2⟩
  have hM2 := hM.only ho2 (by omega) (by omega)
  have hN2 := hN.only ho2 (by simp; omega) (by simp; omega)
  rw [show (w.alloc (.cells #[.int .i64 p.f0, .int .i64 p.f1, .int .i64 p.f2] 48)).heap.size = w.heap.size + 1 by simp] at hN2
  have HO2 := Lib.hid (ho1.trans ho2)
  have hs2 : w.heap.size + 2 ≤ w2.heap.size := by have := ho2.size; simp at this; omega
  clear hN hM ho1 ho2 h
  obtain ⟨⟨n1, at1, bad1⟩, ha⟩ : ∃ t, t = numS G at_ bad := ⟨_, rfl⟩
  rw [← ha] at h2 ⊢
  dsimp only at h2
  have HA := Lib.hid ha
  clear ha
  go_wp2_with fail
  refine (vint_Zag.calls n1 _ w2 (zagV_eq n1)).mono ?_
  rintro e w3 ⟨rfl, hd⟩
  obtain ⟨m, rfl⟩ := hd.out
  clear hd
  go_wp2_with fail
  refine (num_calls _ g A l c at1 bad1 G hG (Kd.C_below hr ((hb.trans (HO2.out.below hg hg (by omega)))  |> fun h => pw_below_drewN h m)) hc (h2.drewN m)).mono ?_
  rintro e w4 ⟨rfl, h4, ho4⟩
  have hM4 := (hM2.drewN m).only ho4 (by omega) (by omega)
  have hN4 := (hN2.drewN m).only ho4 (by omega) (by omega)
  have HO4 := Lib.hid ((HO2.out.drewN m).trans ho4)
  have hs4 : w.heap.size + 2 ≤ w4.heap.size := by have := ho4.size; simp at this; omega
  clear hM2 hN2 HO2 ho4 h2 hs2
  obtain ⟨⟨n2, at2, bad2⟩, hab⟩ : ∃ t, t = numS G at1 bad1 := ⟨_, rfl⟩
  rw [← hab] at h4 ⊢
  dsimp only at h4
  have HAB := Lib.hid hab
  clear hab
  go_wp2_with fail
  refine (vint_Zag.calls n2 _ w4 (zagV_eq n2)).mono ?_
  rintro e w5 ⟨rfl, hd⟩
  obtain ⟨m5, rfl⟩ := hd.out
  clear hd
  have c2 : (w4.drewN m5).cell? ⟨g, 2, none⟩ = some (.bool bad2) := h4.cell 2
  have f2 : (w4.drewN m5).frozen? ⟨g, 2, none⟩ = false := h4.frozen 2
  have hM5 := hM4.drewN m5
  have hN5 := hN4.drewN m5
  have h5 : IsR (w4.drewN m5) g A l.length c at2 bad2 := h4.drewN m5
  have HO5 := Lib.hid (HO4.out.drewN m5)
  have hs5 : w.heap.size + 2 ≤ (w4.drewN m5).heap.size := hs4
  clear hM4 hN4 HO4 hs4 h4
  generalize w4.drewN m5 = w5 at *
  have hps := pointS_eq (p := p) HA.out HAB.out
  rw [← HS.out] at hps
  clear HS HA HAB
  generalize zagV n1 = x at *
  generalize zagV n2 = y at *
  have HPS := Lib.hid hps
  clear hps hG
  have m0 : w5.cell? ⟨w.heap.size, 0, none⟩ = some (.int .i64 p.f0) := hM5.cell 0
  have m1 : w5.cell? ⟨w.heap.size, 1, none⟩ = some (.int .i64 p.f1) := hM5.cell 1
  have m2 : w5.cell? ⟨w.heap.size, 2, none⟩ = some (.int .i64 p.f2) := hM5.cell 2
  have k0 : w5.cell? ⟨w.heap.size + 1, 0, none⟩ = some (.int .i64 0) := hN5.cell 0
  have k1 : w5.cell? ⟨w.heap.size + 1, 1, none⟩ = some (.int .i64 0) := hN5.cell 1
  have k2 : w5.cell? ⟨w.heap.size + 1, 2, none⟩ = some (.int .i64 0) := hN5.cell 2
  have ne1 : g ≠ w.heap.size := by omega
  have ne2 : g ≠ w.heap.size + 1 := by omega
  have ne3 : w.heap.size ≠ g := by omega
  have ne4 : w.heap.size + 1 ≠ g := by omega
  have g0 : w5.frozen? ⟨w.heap.size + 1, 0, none⟩ = false := hN5.frozen 0
  have g1 : w5.frozen? ⟨w.heap.size + 1, 1, none⟩ = false := hN5.frozen 1
  have g2 : w5.frozen? ⟨w.heap.size + 1, 2, none⟩ = false := hN5.frozen 2
  cases bad2 with
  | true =>
    have hS := HPS.out
    simp only [Bool.true_or, if_true] at hS
    subst hS
    clear HPS
    go_wp2
    refine bodyPost_ret (v := .agg #[.int .i64 p.f0, .int .i64 p.f1, .int .i64 p.f2]) (by rw [results, show Try.f27.results = #[.cell 4 48] from rfl]; go_simp) rfl ?_
    refine ⟨rfl, ?_, ?_⟩
    · exact ((((h5.set_ 2 (.bool true)).far (p := ⟨w.heap.size + 1, 0, none⟩) ne2 _).far (p := ⟨w.heap.size + 1, 1, none⟩) ne2 _).far (p := ⟨w.heap.size + 1, 2, none⟩) ne2 _)
    · exact only_new (only_new (only_new (HO5.out.setCell (p := ⟨g, 2, none⟩) (.inl rfl) _) (by simp) _) (by simp) _) (by simp) _
  | false =>
    go_wp2_with fail
    refine (far_calls w5 x).mono ?_
    rintro e w6 ⟨rfl, rfl⟩
    by_cases hx : farV x = true
    · have hS := HPS.out
      simp only [hx, Bool.true_or, Bool.or_true, if_true] at hS
      subst hS
      rw [hx]
      clear HPS
      go_wp2
      refine bodyPost_ret (v := .agg #[.int .i64 p.f0, .int .i64 p.f1, .int .i64 p.f2]) (by rw [results, show Try.f27.results = #[.cell 4 48] from rfl]; go_simp) rfl ?_
      refine ⟨rfl, ?_, ?_⟩
      · exact ((((h5.set_ 2 (.bool true)).far (p := ⟨w.heap.size + 1, 0, none⟩) ne2 _).far (p := ⟨w.heap.size + 1, 1, none⟩) ne2 _).far (p := ⟨w.heap.size + 1, 2, none⟩) ne2 _)
      · exact only_new (only_new (only_new (HO5.out.setCell (p := ⟨g, 2, none⟩) (.inl rfl) _) (by simp) _) (by simp) _) (by simp) _
    · have hx' : farV x = false := by simpa using hx
      rw [hx']
      go_wp2_with fail
      refine (far_calls w6 y).mono ?_
      rintro e w7 ⟨rfl, rfl⟩
      by_cases hy : farV y = true
      · have hS := HPS.out
        simp only [hx', hy, Bool.true_or, Bool.or_true, if_true] at hS
        subst hS
        rw [hy]
        clear HPS
        go_wp2
        refine bodyPost_ret (v := .agg #[.int .i64 p.f0, .int .i64 p.f1, .int .i64 p.f2]) (by rw [results, show Try.f27.results = #[.cell 4 48] from rfl]; go_simp) rfl ?_
        refine ⟨rfl, ?_, ?_⟩
        · exact ((((h5.set_ 2 (.bool true)).far (p := ⟨w.heap.size + 1, 0, none⟩) ne2 _).far (p := ⟨w.heap.size + 1, 1, none⟩) ne2 _).far (p := ⟨w.heap.size + 1, 2, none⟩) ne2 _)
        · exact only_new (only_new (only_new (HO5.out.setCell (p := ⟨g, 2, none⟩) (.inl rfl) _) (by simp) _) (by simp) _) (by simp) _
      · have hy' : farV y = false := by simpa using hy
        have hS := HPS.out
        simp only [hx', hy', Bool.or_self, Bool.false_eq_true, if_false] at hS
        rw [hy']
        clear HPS
        subst hS
        go_wp2_with fail
        generalize hq0 : wrap64 (p.f0 + x) = q0
        generalize hq1 : wrap64 (p.f1 + y) = q1
        refine (arc_right.calls q0 q1 0 _ _ (rightV_eq ⟨q0, q1, 0⟩)).mono ?_
        rintro e w8 ⟨rfl, hb8⟩
        have h8 : IsR w8 g A l.length c at2 false := ((h5.set_ 2 (.bool false)).alloc _).below hb8
        have hN8 := ((hN5.far (p := ⟨g, 2, none⟩) ne4 (.bool false)).alloc (.cells #[.int .i64 q0, .int .i64 q1, .int .i64 0] 48)).below hb8
        have hP8 := (Blk.here (w7.setCell ⟨g, 2, none⟩ (.bool false)) 48 #[.int .i64 q0, .int .i64 q1, .int .i64 0]).below hb8
        have HO8 := Lib.hid (((HO5.out.setCell (p := ⟨g, 2, none⟩) (.inl rfl) (.bool false)).alloc (.cells #[.int .i64 q0, .int .i64 q1, .int .i64 0] 48)).trans (hb8.only g g))
        rw [show (w7.setCell ⟨g, 2, none⟩ (.bool false)).heap.size = w7.heap.size by simp [World.setCell]] at hP8
        have r2 : w8.cell? ⟨g, 2, none⟩ = some (.bool false) := h8.cell 2
        have rf : w8.frozen? ⟨g, 2, none⟩ = false := h8.frozen 2
        have a0 : w8.cell? ⟨w7.heap.size, 0, none⟩ = some (.int .i64 q0) := hP8.cell 0
        have a1 : w8.cell? ⟨w7.heap.size, 1, none⟩ = some (.int .i64 q1) := hP8.cell 1
        have a2 : w8.cell? ⟨w7.heap.size, 2, none⟩ = some (.int .i64 0) := hP8.cell 2
        have b0 : w8.cell? ⟨w.heap.size + 1, 0, none⟩ = some (.int .i64 0) := hN8.cell 0
        have b1 : w8.cell? ⟨w.heap.size + 1, 1, none⟩ = some (.int .i64 0) := hN8.cell 1
        have b2 : w8.cell? ⟨w.heap.size + 1, 2, none⟩ = some (.int .i64 0) := hN8.cell 2
        have e0 : w8.frozen? ⟨w.heap.size + 1, 0, none⟩ = false := hN8.frozen 0
        have e1 : w8.frozen? ⟨w.heap.size + 1, 1, none⟩ = false := hN8.frozen 1
        have e2 : w8.frozen? ⟨w.heap.size + 1, 2, none⟩ = false := hN8.frozen 2
        have ne5 : w7.heap.size ≠ g := by omega
        have ne6 : g ≠ w7.heap.size := by omega
        clear hb8 h5 hN5 hM5 HO5 hb hr hN8 hP8
        go_wp2
        refine bodyPost_ret (v := .agg #[.int .i64 q0, .int .i64 q1, .int .i64 0]) (by rw [results, show Try.f27.results = #[.cell 4 48] from rfl]; go_simp) rfl ?_
        refine ⟨rfl, ?_, ?_⟩
        · exact ((((h8.set_ 2 (.bool (!rightV ⟨q0, q1, 0⟩))).far (p := ⟨w.heap.size + 1, 0, none⟩) ne2 _).far (p := ⟨w.heap.size + 1, 1, none⟩) ne2 _).far (p := ⟨w.heap.size + 1, 2, none⟩) ne2 _)
        · exact only_new (only_new (only_new (HO8.out.setCell (p := ⟨g, 2, none⟩) (.inl rfl) _) (by simp) _) (by simp) _) (by simp) _
end Go.Proofs.Ytmfeokapjmpjfaa.ArcW
