/- The plain side of the coder: the writer behind each symbol. -/
import Derived.Test.YthegimfokcdehaaCoderMath2
namespace Go.Proofs.Ythegimfokcdehaa.CM
set_option linter.unusedVariables false
set_option linter.unusedSimpArgs false
/-- The writer, and what may still be carried. -/
structure Pr (t : St) (o : List Int) (c : Int) (h : Nat) (l : Int) : Prop where
  wr : Wr o c h l t.V t.L
  sum : l + t.R ≤ 8589934592
  top : c = 255 → l + t.R ≤ 4294967296
theorem sh_top {o : List Int} {c : Int} {h : Nat} {l r : Int} (hl0 : 0 ≤ l) (hr0 : 1 ≤ r) (hr1 : r < 16777216) (h1 : l + r ≤ 8589934592) (h2 : c = 255 → l + r ≤ 4294967296) :
    (sh o c h l).2.2.2 + r * 256 ≤ 8589934592 ∧ ((sh o c h l).2.1 = 255 → (sh o c h l).2.2.2 + r * 256 ≤ 4294967296) := by
  unfold sh
  split
  · simp only
    refine ⟨by omega, fun e => ?_⟩
    omega
  · simp only
    refine ⟨by omega, fun e => ?_⟩
    have := h2 e
    omega
theorem shs_top : ∀ (m : Nat) {o : List Int} {c : Int} {h : Nat} {l r : Int} {V : Int} {L : Nat}, Wr o c h l V L → 1 ≤ r → (∀ j, j < m → r * pw j < 16777216) → l + r ≤ 8589934592 → (c = 255 → l + r ≤ 4294967296) →
    (shs m (o, c, h, l)).2.2.2 + r * pw m ≤ 8589934592 ∧ ((shs m (o, c, h, l)).2.1 = 255 → (shs m (o, c, h, l)).2.2.2 + r * pw m ≤ 4294967296)
  | 0, o, c, h, l, r, V, L, w, _, _, h1, h2 => by rw [pw_zero, Int.mul_one]; exact ⟨h1, h2⟩
  | m + 1, o, c, h, l, r, V, L, w, hr, hj, h1, h2 => by
    have hr1 := hj 0 (by omega)
    rw [pw_zero, Int.mul_one] at hr1
    obtain ⟨a, b⟩ := sh_top (o := o) (h := h) w.l0 hr hr1 h1 h2
    have := shs_top m (r := r * 256) w.sh.1 (by omega) (fun j hjm => by
      have := hj (j + 1) (by omega)
      rwa [pw_succ, Int.mul_comm (pw j), ← Int.mul_assoc] at this) a b
    rw [pw_succ, Int.mul_comm (pw m), ← Int.mul_assoc]
    exact this
theorem many_lt' {r : Int} {j : Nat} (h0 : 256 ≤ r) (h : j < many r) : r * pw j < 16777216 := by
  unfold many at h
  by_cases a : r < 65536
  · rw [if_pos a] at h
    have : j = 0 ∨ j = 1 := by omega
    rcases this with rfl | rfl
    · rw [pw_zero]; omega
    · rw [pw_one]; omega
  · rw [if_neg a] at h
    by_cases b : r < 16777216
    · rw [if_pos b] at h
      have : j = 0 := by omega
      subst this
      rw [pw_zero]; omega
    · rw [if_neg b] at h
      omega
theorem Pr.step {t u : St} (hI : SInv t) {o : List Int} {c : Int} {h : Nat} {l : Int} (p : Pr t o c h l) {x : Int × Int} {a n : Int} (s : Stepped t u x a n) (m : Nat) (hm : m = many (t.R / whole t.C x.1 * n)) :
    Pr u (shs m (o, c, h, l + t.R / whole t.C x.1 * a)).1 (shs m (o, c, h, l + t.R / whole t.C x.1 * a)).2.1 (shs m (o, c, h, l + t.R / whole t.C x.1 * a)).2.2.1 (shs m (o, c, h, l + t.R / whole t.C x.1 * a)).2.2.2 := by
  obtain ⟨s0, a0, n1, an, w1, w2, _⟩ := share_some hI.mods s.sh
  have hq := s.qle
  have hq1 := s.q1
  have hqn := s.q256
  rw [Int.mul_add] at hq
  have hl : u.L - t.L = m := by rw [s.l, hm]; omega
  have hr := s.r
  have hv := s.v
  have hul := s.l
  rw [hl] at hr hv
  generalize hqq : t.R / whole t.C x.1 = q at *
  have hqa : 0 ≤ q * a := Int.mul_nonneg (by omega) a0
  have hsum := p.sum
  have htop := p.top
  have hw : Wr o c h (l + q * a) (t.V + q * a) t.L := ⟨p.wr.dig, p.wr.c0, p.wr.c1, p.wr.h1, by have := p.wr.l0; omega, by omega, p.wr.len, by have := p.wr.num; omega, fun e => by have := htop e; omega⟩
  have h1 := hw.shs m
  have h2 := shs_top m (r := q * n) hw (by omega) (fun j hj => many_lt' hqn (by rw [← hm]; exact hj)) (by omega) (fun e => by have := htop e; omega)
  refine ⟨?_, ?_, ?_⟩
  · rw [hv, show u.L = t.L + m by omega]
    exact h1
  · rw [hr]; exact h2.1
  · rw [hr]; exact h2.2
theorem run_snoc (t : St) : ∀ (xs : List (Int × Int)) (x : Int × Int), run t (xs ++ [x]) = (run t xs).bind fun u => step u x := by
  intro xs
  induction xs generalizing t with
  | nil =>
    intro x
    rw [List.nil_append, run, run, Option.bind_some]
    cases step t x <;> rfl
  | cons y ys ih =>
    intro x
    rw [List.cons_append, run, run]
    cases step t y with
    | none => rfl
    | some u => rw [Option.bind_some, Option.bind_some, ih]
theorem run_append (t : St) : ∀ (xs ys : List (Int × Int)), run t (xs ++ ys) = (run t xs).bind fun u => run u ys := by
  intro xs
  induction xs generalizing t with
  | nil => intro ys; rw [List.nil_append, run, Option.bind_some]
  | cons y zs ih =>
    intro ys
    rw [List.cons_append, run, run]
    cases step t y with
    | none => rfl
    | some u => rw [Option.bind_some, Option.bind_some, ih]
theorem many_le2 (r : Int) : many r ≤ 2 := by unfold many; split <;> (try split) <;> omega
theorem step_none {t : St} {x : Int × Int} (h : share t.C x.1 x.2 = none) : step t x = none := by unfold step; rw [h]; rfl
theorem step_of_share {t : St} {x : Int × Int} {p : Int × Int} (h : share t.C x.1 x.2 = some p) : ∃ u, step t x = some u := by unfold step; rw [h]; exact ⟨_, rfl⟩
/-- At the begin. -/
def st0 (C : List (List Int)) : St := ⟨C, 4294967295, 0, 5⟩
theorem st0_inv {C : List (List Int)} (h : Mods C) : SInv (st0 C) :=
  ⟨h, by show (16777216 : Int) ≤ 4294967295; decide, by show (4294967295 : Int) < 4294967296; decide, Int.le_refl 0, Nat.le_refl 5, by rw [show (st0 C).L - 5 = 0 from rfl, pw_zero]; show (0 : Int) + 4294967295 ≤ 4294967295 * 1; decide⟩
theorem st0_pr (C : List (List Int)) : Pr (st0 C) [] 0 1 0 :=
  ⟨⟨.nil, by decide, by decide, by decide, by decide, by decide, rfl, by show (0 : Int) = val ([] ++ [0] ++ List.replicate (1 - 1) 255) * 4294967296 + 0; decide, fun h => by omega⟩, by show (0 : Int) + 4294967295 ≤ 8589934592; decide, fun h => by omega⟩
theorem run_L : ∀ (xs : List (Int × Int)) {t u : St}, SInv t → run t xs = some u → u.L ≤ t.L + 2 * xs.length
  | [], t, u, h, e => by rw [run] at e; injection e with e; subst e; simp
  | x :: xs, t, u, h, e => by
    rw [run] at e
    obtain ⟨v, hv, hr⟩ := Option.bind_eq_some_iff.1 e
    obtain ⟨a, n, hs⟩ := step_some h hv
    have h1 := run_L xs hs.inv hr
    have h2 := hs.l
    have h3 := many_le2 (t.R / whole t.C x.1 * n)
    rw [List.length_cons]
    omega
theorem run_lens : ∀ (xs : List (Int × Int)) {t u : St}, run t xs = some u → u.C.map List.length = t.C.map List.length
  | [], t, u, e => by rw [run] at e; injection e with e; subst e; rfl
  | x :: xs, t, u, e => by
    rw [run] at e
    obtain ⟨v, hv, hr⟩ := Option.bind_eq_some_iff.1 e
    rw [run_lens xs hr]
    unfold step at hv
    obtain ⟨p, hp, hu⟩ := Option.map_eq_some_iff.1 hv
    subst hu
    exact cntC_lens _ _ _
end Go.Proofs.Ythegimfokcdehaa.CM
