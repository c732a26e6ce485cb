/- The plain side of the coder: shares, steps; ranges lie in each other; what is coded is read as it was, and no two of like models begin alike. -/
import Derived.Test.YthegimfokcdehaaCoderMath
import Derived.Test.YthegimfokcdehaaModelPure
namespace Go.Proofs.Ythegimfokcdehaa.CM
open Go.Proofs.Ythegimfokcdehaa.MW (Ok cnt cntI Inv findL sum_nonneg)
set_option linter.unusedVariables false
set_option linter.unusedSimpArgs false

/-! ### shares -/
def bits (k : Int) : Int := 2 ^ (-k).toNat
theorem bits_bound {k : Int} (h0 : k < 0) (h1 : -16 ≤ k) : 2 ≤ bits k ∧ bits k ≤ 65536 := by
  unfold bits
  obtain ⟨n, hn⟩ : ∃ n : Nat, (-k).toNat = n := ⟨_, rfl⟩
  rw [hn]
  have h2 : 1 ≤ n := by omega
  have h3 : n ≤ 16 := by omega
  clear hn h0 h1
  have : n = 1 ∨ n = 2 ∨ n = 3 ∨ n = 4 ∨ n = 5 ∨ n = 6 ∨ n = 7 ∨ n = 8 ∨ n = 9 ∨ n = 10 ∨ n = 11 ∨ n = 12 ∨ n = 13 ∨ n = 14 ∨ n = 15 ∨ n = 16 := by omega
  rcases this with rfl | rfl | rfl | rfl | rfl | rfl | rfl | rfl | rfl | rfl | rfl | rfl | rfl | rfl | rfl | rfl <;> decide
/-- Models, all right. -/
def Mods (C : List (List Int)) : Prop := ∀ c ∈ C, Ok c.length c ∧ 1 ≤ c.length
def isPlain (k : Int) : Prop := k < 0 ∧ -16 ≤ k
instance (k : Int) : Decidable (isPlain k) := by unfold isPlain; infer_instance
def whole (C : List (List Int)) (k : Int) : Int := if isPlain k then bits k else if 0 ≤ k ∧ k < C.length then (C.getD k.toNat []).sum else 0
def share (C : List (List Int)) (k s : Int) : Option (Int × Int) :=
  if isPlain k then (if 0 ≤ s ∧ s < bits k then some (s, 1) else none)
  else if 0 ≤ k ∧ k < C.length then (if 0 ≤ s ∧ s < (C.getD k.toNat []).length then some (((C.getD k.toNat []).take s.toNat).sum, (C.getD k.toNat []).getD s.toNat 0) else none)
  else none
theorem Mods.at_ {C : List (List Int)} (h : Mods C) {k : Nat} (hk : k < C.length) : Ok (C.getD k []).length (C.getD k []) ∧ 1 ≤ (C.getD k []).length := by
  have : C.getD k [] = C[k] := by rw [List.getD_eq_getElem?_getD, List.getElem?_eq_getElem hk]; rfl
  rw [this]
  exact h _ (List.getElem_mem hk)
theorem sum_ge_len : ∀ l : List Int, (∀ c ∈ l, 1 ≤ c) → (l.length : Int) ≤ l.sum
  | [], _ => by simp
  | c :: l, h => by
    have h1 := sum_ge_len l (fun d hd => h d (List.mem_cons_of_mem _ hd))
    have h2 := h c (List.mem_cons_self ..)
    rw [List.sum_cons, List.length_cons]
    omega
theorem sum_split (cs : List Int) (s : Nat) (hs : s < cs.length) : cs.sum = (cs.take s).sum + cs.getD s 0 + (cs.drop (s + 1)).sum := by
  have hg : cs.getD s 0 = cs[s] := by rw [List.getD_eq_getElem?_getD, List.getElem?_eq_getElem hs]; rfl
  have h1 : cs.sum = (cs.take s).sum + (cs.drop s).sum := by rw [← List.sum_append, List.take_append_drop]
  rw [List.drop_eq_getElem_cons hs, List.sum_cons] at h1
  rw [hg]
  omega
/-- What is known of a share. -/
theorem share_some {C : List (List Int)} (h : Mods C) {k s a n : Int} (e : share C k s = some (a, n)) :
    0 ≤ s ∧ 0 ≤ a ∧ 1 ≤ n ∧ a + n ≤ whole C k ∧ 1 ≤ whole C k ∧ whole C k ≤ 65536 ∧ (isPlain k ∨ 0 ≤ k ∧ k < C.length ∧ s < (C.getD k.toNat []).length) := by
  unfold share at e
  unfold whole
  by_cases hp : isPlain k
  · rw [if_pos hp] at e ⊢
    have hb := bits_bound hp.1 hp.2
    by_cases hs : 0 ≤ s ∧ s < bits k
    · rw [if_pos hs] at e
      injection e with e
      injection e with e1 e2
      subst e1
      subst e2
      exact ⟨hs.1, hs.1, by omega, by omega, by omega, by omega, .inl hp⟩
    · rw [if_neg hs] at e
      cases e
  · rw [if_neg hp] at e ⊢
    by_cases hk : 0 ≤ k ∧ k < C.length
    · rw [if_pos hk] at e ⊢
      obtain ⟨ho, h1⟩ := h.at_ (k := k.toNat) (by omega)
      generalize C.getD k.toNat [] = c at *
      by_cases hs : 0 ≤ s ∧ s < c.length
      · rw [if_pos hs] at e
        injection e with e
        injection e with e1 e2
        have hsp := sum_split c s.toNat (by omega)
        have hd := sum_nonneg (c.drop (s.toNat + 1)) (fun x hx => ho.1 x (List.mem_of_mem_drop hx))
        have ht := sum_nonneg (c.take s.toNat) (fun x hx => ho.1 x (List.mem_of_mem_take hx))
        have hg : c.getD s.toNat 0 = c[s.toNat]'(by omega) := by rw [List.getD_eq_getElem?_getD, List.getElem?_eq_getElem (by omega)]; rfl
        have hm := ho.1 (c[s.toNat]'(by omega)) (List.getElem_mem _)
        have hsum := ho.2.1
        rw [← hg] at hm
        exact ⟨hs.1, by omega, by omega, by omega, by omega, by omega, .inr ⟨hk.1, hk.2, hs.2⟩⟩
      · rw [if_neg hs] at e
        cases e
    · rw [if_neg hk] at e
      cases e
/-- Whose share it is. -/
def findS (C : List (List Int)) (k v : Int) : Int := if k < 0 then v else findL (C.getD k.toNat []) 0 v
theorem findL_at : ∀ (c : List Int) (i v : Int) (s : Nat), (∀ x ∈ c, 1 ≤ x) → s < c.length → (c.take s).sum ≤ v → v < (c.take s).sum + c.getD s 0 → findL c i v = i + s
  | [], _, _, _, _, h, _, _ => by simp at h
  | c :: cs, i, v, 0, hp, _, h0, h1 => by
    simp at h0 h1
    rw [findL, if_pos h1]
    simp
  | c :: cs, i, v, s + 1, hp, hs, h0, h1 => by
    rw [List.take_succ_cons, List.sum_cons] at h0 h1
    rw [List.getD_cons_succ] at h1
    have hn := sum_nonneg (cs.take s) (fun x hx => hp x (List.mem_cons_of_mem _ (List.mem_of_mem_take hx)))
    rw [findL, if_neg (by omega), findL_at cs (i + 1) (v - c) s (fun x hx => hp x (List.mem_cons_of_mem _ hx)) (by simpa using hs) (by omega) (by omega)]
    push_cast
    omega
theorem find_share {C : List (List Int)} (h : Mods C) {k s a n v : Int} (e : share C k s = some (a, n)) (h0 : a ≤ v) (h1 : v < a + n) : findS C k v = s := by
  have hs := share_some h e
  unfold share at e
  unfold findS
  by_cases hp : isPlain k
  · rw [if_pos hp] at e
    by_cases hs : 0 ≤ s ∧ s < bits k
    · rw [if_pos hs] at e
      injection e with e
      injection e with e1 e2
      rw [if_pos hp.1]
      omega
    · rw [if_neg hs] at e
      cases e
  · rw [if_neg hp] at e
    by_cases hk : 0 ≤ k ∧ k < C.length
    · rw [if_pos hk] at e
      obtain ⟨ho, _⟩ := h.at_ (k := k.toNat) (by omega)
      rw [if_neg (by omega)]
      generalize C.getD k.toNat [] = c at *
      by_cases hs : 0 ≤ s ∧ s < c.length
      · rw [if_pos hs] at e
        injection e with e
        injection e with e1 e2
        rw [findL_at c 0 v s.toNat ho.1 (by omega) (by omega) (by omega)]
        omega
      · rw [if_neg hs] at e
        cases e
    · rw [if_neg hk] at e
      cases e
/-- Every place of the whole is somebody's. -/
theorem findL_some : ∀ (c : List Int) (i v : Int), (∀ x ∈ c, 1 ≤ x) → 0 ≤ v → v < c.sum → ∃ s : Nat, s < c.length ∧ findL c i v = i + s ∧ (c.take s).sum ≤ v ∧ v < (c.take s).sum + c.getD s 0
  | [], _, v, _, h0, h1 => by simp at h1; omega
  | c :: cs, i, v, hp, h0, h1 => by
    rw [List.sum_cons] at h1
    by_cases hv : v < c
    · exact ⟨0, by simp, by rw [findL, if_pos hv]; simp, by simpa using h0, by simpa using hv⟩
    · obtain ⟨s, h2, h3, h4, h5⟩ := findL_some cs (i + 1) (v - c) (fun x hx => hp x (List.mem_cons_of_mem _ hx)) (by omega) (by omega)
      refine ⟨s + 1, by simpa using h2, by rw [findL, if_neg hv, h3]; push_cast; omega, ?_, ?_⟩
      · rw [List.take_succ_cons, List.sum_cons]; omega
      · rw [List.take_succ_cons, List.sum_cons, List.getD_cons_succ]; omega
theorem find_some {C : List (List Int)} (h : Mods C) {k v : Int} (hw : 0 < whole C k) (h0 : 0 ≤ v) (h1 : v < whole C k) : ∃ a n, share C k (findS C k v) = some (a, n) ∧ a ≤ v ∧ v < a + n := by
  unfold whole at hw h1
  unfold share findS
  by_cases hp : isPlain k
  · rw [if_pos hp] at hw h1 ⊢
    rw [if_pos hp.1, if_pos ⟨h0, h1⟩]
    exact ⟨v, 1, rfl, by omega, by omega⟩
  · rw [if_neg hp] at hw h1 ⊢
    by_cases hk : 0 ≤ k ∧ k < C.length
    · rw [if_pos hk] at hw h1 ⊢
      obtain ⟨ho, _⟩ := h.at_ (k := k.toNat) (by omega)
      rw [if_neg (show ¬ k < 0 by omega)]
      generalize C.getD k.toNat [] = c at *
      obtain ⟨s, h2, h3, h4, h5⟩ := findL_some c 0 v ho.1 h0 h1
      rw [h3, if_pos ⟨by omega, by omega⟩]
      refine ⟨_, _, rfl, ?_, ?_⟩
      · rw [show ((0 : Int) + s).toNat = s by omega]; exact h4
      · rw [show ((0 : Int) + s).toNat = s by omega]; exact h5
    · rw [if_neg hk] at hw
      omega

/-! ### steps -/
structure St where
  C : List (List Int)
  R : Int
  V : Int
  L : Nat
def cntC (C : List (List Int)) (k s : Int) : List (List Int) := if 0 ≤ k then C.set k.toNat (cntI (C.getD k.toNat []) s) else C
/-- How many digits are settled. -/
def many (R : Int) : Nat := if R < 65536 then 2 else if R < 16777216 then 1 else 0
def step (t : St) (x : Int × Int) : Option St :=
  (share t.C x.1 x.2).map fun p => ⟨cntC t.C x.1 x.2, t.R / whole t.C x.1 * p.2 * pw (many (t.R / whole t.C x.1 * p.2)), (t.V + t.R / whole t.C x.1 * p.1) * pw (many (t.R / whole t.C x.1 * p.2)), t.L + many (t.R / whole t.C x.1 * p.2)⟩
structure SInv (t : St) : Prop where
  mods : Mods t.C
  r0 : 16777216 ≤ t.R
  r1 : t.R < 4294967296
  v0 : 0 ≤ t.V
  l5 : 5 ≤ t.L
  top : t.V + t.R ≤ 4294967295 * pw (t.L - 5)
theorem many_mul {R : Int} (h0 : 256 ≤ R) (h1 : R < 4294967296) : 16777216 ≤ R * pw (many R) ∧ R * pw (many R) < 4294967296 := by
  unfold many
  by_cases a : R < 65536
  · rw [if_pos a, pw_two]; omega
  · rw [if_neg a]
    by_cases b : R < 16777216
    · rw [if_pos b, pw_one]; omega
    · rw [if_neg b, pw_zero]; omega
theorem mods_cnt {C : List (List Int)} (h : Mods C) {k s a n : Int} (e : share C k s = some (a, n)) : Mods (cntC C k s) := by
  have hs := share_some h e
  unfold cntC
  by_cases hk : 0 ≤ k
  · rw [if_pos hk]
    rcases hs.2.2.2.2.2.2 with hp | ⟨_, h1, h2⟩
    · exact absurd hp.1 (by omega)
    · intro c hc
      rcases List.mem_or_eq_of_mem_set hc with hc | rfl
      · exact h c hc
      · obtain ⟨ho, hl⟩ := h.at_ (k := k.toNat) (by omega)
        have hst := (ho.step (s := s.toNat) (by omega)).2.2
        unfold cntI
        rw [hst.2.2.1]
        exact ⟨hst, hl⟩
  · rw [if_neg hk]
    exact h
theorem cntC_length (C : List (List Int)) (k s : Int) : (cntC C k s).length = C.length := by unfold cntC; split <;> simp
theorem cnt_length (c : List Int) (s : Nat) : (cnt c s).length = c.length := by
  unfold cnt MW.halfL
  split <;> simp
theorem cntC_lens (C : List (List Int)) (k s : Int) : (cntC C k s).map List.length = C.map List.length := by
  unfold cntC
  by_cases hk : 0 ≤ k
  · rw [if_pos hk]
    apply List.ext_getElem?
    intro i
    rw [List.getElem?_map, List.getElem?_map, List.getElem?_set]
    by_cases hi : k.toNat = i
    · rw [if_pos hi]
      subst hi
      by_cases hl : k.toNat < C.length
      · rw [if_pos hl, List.getElem?_eq_getElem hl, Option.map_some, Option.map_some]
        unfold cntI
        rw [cnt_length, List.getD_eq_getElem?_getD, List.getElem?_eq_getElem hl]
        rfl
      · rw [if_neg hl, List.getElem?_eq_none (by omega)]
    · rw [if_neg hi]
  · rw [if_neg hk]
/-- One step: what it comes to. -/
structure Stepped (t u : St) (x : Int × Int) (a n : Int) : Prop where
  sh : share t.C x.1 x.2 = some (a, n)
  inv : SInv u
  c : u.C = cntC t.C x.1 x.2
  q256 : 256 ≤ t.R / whole t.C x.1 * n
  q1 : 1 ≤ t.R / whole t.C x.1
  qle : t.R / whole t.C x.1 * (a + n) ≤ t.R
  r : u.R = t.R / whole t.C x.1 * n * pw (u.L - t.L)
  v : u.V = (t.V + t.R / whole t.C x.1 * a) * pw (u.L - t.L)
  l : u.L = t.L + many (t.R / whole t.C x.1 * n)
  l0 : t.L ≤ u.L
theorem mul_le_of {a b c : Int} (h : a ≤ b) (hc : 0 ≤ c) : c * a ≤ c * b := Int.mul_le_mul_of_nonneg_left h hc
theorem step_some {t u : St} (h : SInv t) {x : Int × Int} (e : step t x = some u) : ∃ a n, Stepped t u x a n := by
  unfold step at e
  obtain ⟨p, hp, hu⟩ := Option.map_eq_some_iff.1 e
  obtain ⟨a, n⟩ := p
  obtain ⟨s0, a0, n1, an, w1, w2, _⟩ := share_some h.mods hp
  have r0 := h.r0
  have r1 := h.r1
  have v0 := h.v0
  have l5 := h.l5
  have htop := h.top
  have hmods := mods_cnt h.mods hp
  simp only at hu
  generalize hw : whole t.C x.1 = w at *
  have hq : 256 ≤ t.R / w := by
    rw [Int.le_ediv_iff_mul_le (by omega)]
    omega
  have hqw : t.R / w * w ≤ t.R := Int.ediv_mul_le _ (by omega)
  generalize hqq : t.R / w = q at *
  have hqn : 256 ≤ q * n := by
    have := mul_le_of n1 (show 0 ≤ q by omega)
    omega
  have hqan : q * (a + n) ≤ t.R := by
    have := mul_le_of an (show 0 ≤ q by omega)
    omega
  have hqa0 : 0 ≤ q * a := Int.mul_nonneg (by omega) a0
  have hexp : q * (a + n) = q * a + q * n := Int.mul_add _ _ _
  have hm := many_mul (R := q * n) hqn (by omega)
  subst hu
  refine ⟨a, n, ⟨hp, ⟨hmods, hm.1, hm.2, ?_, by show 5 ≤ t.L + _; omega, ?_⟩, rfl, by rw [hw, hqq]; exact hqn, by rw [hw, hqq]; omega, by rw [hw, hqq]; exact hqan, ?_, ?_, by simp only [hw, hqq], by show t.L ≤ t.L + _; omega⟩⟩
  · exact Int.mul_nonneg (by omega) (Int.le_of_lt (pw_pos _))
  · show (t.V + q * a) * pw (many (q * n)) + q * n * pw (many (q * n)) ≤ 4294967295 * pw (t.L + many (q * n) - 5)
    rw [show t.L + many (q * n) - 5 = t.L - 5 + many (q * n) by omega, pw_add, ← Int.add_mul]
    have hp := pw_pos (many (q * n))
    generalize pw (many (q * n)) = P at *
    generalize pw (t.L - 5) = Q at *
    have : (t.V + q * a + q * n) * P ≤ 4294967295 * Q * P := Int.mul_le_mul_of_nonneg_right (by omega) (by omega)
    rw [Int.mul_assoc] at this
    exact this
  · simp only [hw, hqq, Nat.add_sub_cancel_left]
  · simp only [hw, hqq, Nat.add_sub_cancel_left]
/-- Symbols, one behind the other. -/
def run : St → List (Int × Int) → Option St
  | t, [] => some t
  | t, x :: xs => (step t x).bind fun u => run u xs
/-- The later range lies in the former one. -/
structure Within (t u : St) : Prop where
  inv : SInv u
  l : t.L ≤ u.L
  lo : t.V * pw (u.L - t.L) ≤ u.V
  hi : u.V + u.R ≤ (t.V + t.R) * pw (u.L - t.L)
theorem Within.refl {t : St} (h : SInv t) : Within t t := ⟨h, Nat.le_refl _, by rw [Nat.sub_self, pw_zero]; omega, by rw [Nat.sub_self, pw_zero]; omega⟩
theorem Within.trans {t u v : St} (h : Within t u) (k : Within u v) : Within t v := by
  have hl := h.l
  have kl := k.l
  have e : v.L - t.L = (u.L - t.L) + (v.L - u.L) := by omega
  have hp := pw_pos (v.L - u.L)
  refine ⟨k.inv, by omega, ?_, ?_⟩
  · rw [e, pw_add, ← Int.mul_assoc]
    exact Int.le_trans (Int.mul_le_mul_of_nonneg_right h.lo (by omega)) k.lo
  · rw [e, pw_add, ← Int.mul_assoc]
    exact Int.le_trans k.hi (Int.mul_le_mul_of_nonneg_right h.hi (by omega))
theorem Stepped.within {t u : St} {x : Int × Int} {a n : Int} (h : SInv t) (s : Stepped t u x a n) : Within t u := by
  obtain ⟨s0, a0, n1, an, w1, w2, _⟩ := share_some h.mods s.sh
  have hp := pw_pos (u.L - t.L)
  have hqa0 : 0 ≤ t.R / whole t.C x.1 * a := Int.mul_nonneg (by have := s.q1; omega) a0
  have hq := s.qle
  rw [Int.mul_add] at hq
  refine ⟨s.inv, s.l0, ?_, ?_⟩
  · rw [s.v]
    exact Int.mul_le_mul_of_nonneg_right (by omega) (by omega)
  · rw [s.v, s.r, ← Int.add_mul]
    exact Int.mul_le_mul_of_nonneg_right (by omega) (by omega)
theorem run_within : ∀ (xs : List (Int × Int)) {t u : St}, SInv t → run t xs = some u → Within t u
  | [], t, u, h, e => by
    rw [run] at e
    injection e with e
    subst e
    exact Within.refl h
  | x :: xs, t, u, h, e => by
    rw [run] at e
    obtain ⟨v, hv, hr⟩ := Option.bind_eq_some_iff.1 e
    obtain ⟨a, n, hs⟩ := step_some h hv
    exact (hs.within h).trans (run_within xs hs.inv hr)
/-- The first digits of what is coded lie in the range. -/
theorem Within.prefix_ {t u : St} (w : Within t u) : t.V ≤ u.V / pw (u.L - t.L) ∧ u.V / pw (u.L - t.L) < t.V + t.R := by
  have hp := pw_pos (u.L - t.L)
  have h1 := w.lo
  have h2 := w.hi
  have h3 := w.inv.r0
  exact ⟨(Int.le_ediv_iff_mul_le hp).2 h1, (Int.ediv_lt_iff_lt_mul hp).2 (by omega)⟩
theorem SInv.lt {t : St} (h : SInv t) : t.V < pw t.L := by
  have h1 := h.top
  have h2 := h.r0
  have h3 := h.l5
  have e : t.L = (t.L - 5) + 5 := by omega
  have hp : pw 5 = 1099511627776 := by rw [pw_succ, pw_succ, pw_succ, pw_succ, pw_succ, pw_zero]; rfl
  rw [e, pw_add, hp]
  have := pw_pos (t.L - 5)
  omega
/-- The place in the range: whose share it is in. -/
theorem Stepped.found {t u v : St} {x : Int × Int} {a n : Int} (h : SInv t) (s : Stepped t u x a n) (w : Within u v) :
    a ≤ (v.V / pw (v.L - t.L) - t.V) / (t.R / whole t.C x.1) ∧ (v.V / pw (v.L - t.L) - t.V) / (t.R / whole t.C x.1) < a + n := by
  have hp := pw_pos (u.L - t.L)
  have hpre := w.prefix_
  have hl0 := s.l0
  have hl1 := w.l
  have e : v.V / pw (v.L - t.L) = v.V / pw (v.L - u.L) / pw (u.L - t.L) := by
    rw [show v.L - t.L = (v.L - u.L) + (u.L - t.L) by omega, pw_add, ← Int.ediv_ediv_of_nonneg (Int.le_of_lt (pw_pos _))]
  have hv := s.v
  have hr := s.r
  have hq := s.q1
  rw [e]
  generalize v.V / pw (v.L - u.L) = X at *
  generalize t.R / whole t.C x.1 = q at *
  generalize pw (u.L - t.L) = P at *
  have e1 : t.V + q * a ≤ X / P := (Int.le_ediv_iff_mul_le hp).2 (by omega)
  have e2 : X / P < t.V + q * a + q * n := (Int.ediv_lt_iff_lt_mul hp).2 (by rw [Int.add_mul]; omega)
  refine ⟨(Int.le_ediv_iff_mul_le (by omega)).2 ?_, (Int.ediv_lt_iff_lt_mul (by omega)).2 ?_⟩
  · rw [Int.mul_comm]; omega
  · rw [Int.add_mul, Int.mul_comm a, Int.mul_comm n]; omega

/-! ### reading -/
/-- Symbols that are read, each told by a choice. -/
def read (g : St → Int → Option Int) : St → List Int → Option (List (Int × Int) × St)
  | t, [] => some ([], t)
  | t, k :: ks => (g t k).bind fun s => (step t (k, s)).bind fun u => (read g u ks).map fun p => ((k, s) :: p.1, p.2)
theorem read_run (g : St → Int → Option Int) : ∀ (ks : List Int) (t u : St) (xs : List (Int × Int)), read g t ks = some (xs, u) → run t xs = some u ∧ xs.map Prod.fst = ks
  | [], t, u, xs, e => by
    rw [read] at e
    injection e with e
    injection e with e1 e2
    subst e1
    subst e2
    exact ⟨rfl, rfl⟩
  | k :: ks, t, u, xs, e => by
    rw [read] at e
    obtain ⟨s, hs, e⟩ := Option.bind_eq_some_iff.1 e
    obtain ⟨v, hv, e⟩ := Option.bind_eq_some_iff.1 e
    obtain ⟨p, hp, e⟩ := Option.map_eq_some_iff.1 e
    obtain ⟨ys, w⟩ := p
    injection e with e1 e2
    subst e1
    subst e2
    obtain ⟨h1, h2⟩ := read_run g ks v w ys hp
    exact ⟨by rw [run, hv]; exact h1, by rw [List.map_cons, h2]⟩
/-- A choice that is right wherever the bytes begin as a range's do. -/
def Right (b : List Int) (g : St → Int → Option Int) : Prop :=
  ∀ t k s a n, SInv t → t.L ≤ b.length → share t.C k s = some (a, n) → t.V ≤ val (b.take t.L) → val (b.take t.L) < t.V + t.R →
    a ≤ (val (b.take t.L) - t.V) / (t.R / whole t.C k) → (val (b.take t.L) - t.V) / (t.R / whole t.C k) < a + n → g t k = some s
theorem run_read {b : List Int} (hb : Dig b) {g : St → Int → Option Int} (hg : Right b g) : ∀ (xs : List (Int × Int)) (t u : St), SInv t → run t xs = some u → b = digs u.L u.V → read g t (xs.map Prod.fst) = some (xs, u)
  | [], t, u, h, e, eb => by
    rw [run] at e
    injection e with e
    subst e
    rfl
  | x :: xs, t, u, h, e, eb => by
    rw [run] at e
    obtain ⟨v, hv, hr⟩ := Option.bind_eq_some_iff.1 e
    obtain ⟨a, n, hs⟩ := step_some h hv
    have hw := run_within xs hs.inv hr
    have hW := (hs.within h).trans hw
    have hlen : b.length = u.L := by rw [eb, digs_length]
    have hval : val b = u.V := by rw [eb, val_digs _ _ hw.inv.v0 hw.inv.lt]
    have hl := hW.l
    have htk : val (b.take t.L) = u.V / pw (u.L - t.L) := by rw [val_take b hb t.L (by omega), hval, hlen]
    have hf := hs.found h hw
    have hpre := hW.prefix_
    have hgx := hg t x.1 x.2 a n h (by omega) hs.sh (by rw [htk]; exact hpre.1) (by rw [htk]; exact hpre.2) (by rw [htk]; exact hf.1) (by rw [htk]; exact hf.2)
    rw [List.map_cons, read, hgx, Option.bind_some]
    rw [show step t (x.1, x.2) = some v from hv, Option.bind_some, run_read hb hg xs v u hs.inv hr eb]
    rfl
/-- What bytes are: the symbols, or none. -/
def decode (g : St → Int → Option Int) (t : St) (ks : List Int) (b : List Int) : Option (List (Int × Int)) :=
  (read g t ks).bind fun p => if digs p.2.L p.2.V = b then some p.1 else none
theorem decode_iff {b : List Int} (hb : Dig b) {g : St → Int → Option Int} (hg : Right b g) {t : St} (h : SInv t) (ks : List Int) (xs : List (Int × Int)) :
    decode g t ks b = some xs ↔ xs.map Prod.fst = ks ∧ ∃ u, run t xs = some u ∧ digs u.L u.V = b := by
  constructor
  · intro e
    obtain ⟨p, hp, e⟩ := Option.bind_eq_some_iff.1 e
    obtain ⟨ys, u⟩ := p
    by_cases hd : digs u.L u.V = b
    · simp only at e
      rw [if_pos hd] at e
      injection e with e
      subst e
      obtain ⟨h1, h2⟩ := read_run g ks t u ys hp
      exact ⟨h2, u, h1, hd⟩
    · simp only at e
      rw [if_neg hd] at e
      cases e
  · rintro ⟨rfl, u, hr, hd⟩
    unfold decode
    rw [run_read hb hg xs t u h hr hd.symm, Option.bind_some, if_pos hd]
theorem decode_eq {b : List Int} (hb : Dig b) {g g' : St → Int → Option Int} (hg : Right b g) (hg' : Right b g') {t : St} (h : SInv t) (ks : List Int) : decode g t ks b = decode g' t ks b := by
  cases e : decode g t ks b with
  | some xs => exact ((decode_iff hb hg' h ks xs).2 ((decode_iff hb hg h ks xs).1 e)).symm
  | none =>
    cases e' : decode g' t ks b with
    | none => rfl
    | some xs =>
      have := (decode_iff hb hg h ks xs).2 ((decode_iff hb hg' h ks xs).1 e')
      rw [e] at this
      cases this
/-- No two begin alike: of like models, one's bytes that begin as the other's are these. -/
theorem no_prefix : ∀ (xs ys : List (Int × Int)) (t u v : St), SInv t → run t xs = some u → run t ys = some v → xs.map Prod.fst = ys.map Prod.fst → u.L ≤ v.L → digs u.L u.V = (digs v.L v.V).take u.L → xs = ys
  | [], [], _, _, _, _, _, _, _, _, _ => rfl
  | [], y :: ys, _, _, _, _, _, _, h, _, _ => by simp at h
  | x :: xs, [], _, _, _, _, _, _, h, _, _ => by simp at h
  | x :: xs, y :: ys, t, u, v, h, eu, ev, hk, hl, hd => by
    rw [run] at eu ev
    obtain ⟨t1, ht1, hr1⟩ := Option.bind_eq_some_iff.1 eu
    obtain ⟨t2, ht2, hr2⟩ := Option.bind_eq_some_iff.1 ev
    obtain ⟨a1, n1, hs1⟩ := step_some h ht1
    obtain ⟨a2, n2, hs2⟩ := step_some h ht2
    have hw1 := run_within xs hs1.inv hr1
    have hw2 := run_within ys hs2.inv hr2
    have hL1 := ((hs1.within h).trans hw1).l
    have hf1 := hs1.found h hw1
    have hf2 := hs2.found h hw2
    rw [List.map_cons, List.map_cons] at hk
    injection hk with hk1 hk2
    have hval : u.V = v.V / pw (v.L - u.L) := by
      have h1 := val_take (digs v.L v.V) (digs_dig _ _) u.L (by rw [digs_length]; exact hl)
      rw [← hd, digs_length, val_digs _ _ hw1.inv.v0 hw1.inv.lt, val_digs _ _ hw2.inv.v0 hw2.inv.lt] at h1
      exact h1
    have hpre : u.V / pw (u.L - t.L) = v.V / pw (v.L - t.L) := by
      rw [hval, show v.L - t.L = (v.L - u.L) + (u.L - t.L) by omega, pw_add, ← Int.ediv_ediv_of_nonneg (Int.le_of_lt (pw_pos _))]
    have hx : x.2 = y.2 := by
      have e1 := find_share h.mods hs1.sh hf1.1 hf1.2
      have e2 := find_share h.mods hs2.sh hf2.1 hf2.2
      rw [hpre, hk1] at e1
      rw [← e1, ← e2]
    have hxy : x = y := Prod.ext hk1 hx
    subst hxy
    rw [ht1] at ht2
    injection ht2 with ht2
    subst ht2
    rw [no_prefix xs ys t1 u v hs1.inv hr1 hr2 hk2 hl hd]
end Go.Proofs.Ythegimfokcdehaa.CM
