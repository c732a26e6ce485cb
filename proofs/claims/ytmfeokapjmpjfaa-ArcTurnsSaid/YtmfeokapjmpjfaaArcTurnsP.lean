/- Arcs backwards, and whether two are the same: the plain side of ArcTurns. -/
import Derived.Test.YtmfeokapjmpjfaaArcLaws
import Derived.Test.YtmfeokapjmpjfaaPArcx12b
namespace Go.Proofs.Ytmfeokapjmpjfaa.ArcW
open Go Go.RowKit Go.Proofs.Ytmfeokapjmpjfaa.Mem Go.Proofs.Ytmfeokapjmpjfaa.VM Go.Proofs.Ytmfeokapjmpjfaa.VB Go.Proofs.Ytmfeokapjmpjfaa.PArc Go.Proofs.YtmfeokapjmpjfaaW.PrintWords Go.Proofs.YtmfeokapjmpjfaaW.PrintLast Go.Proofs.YtmfeokapjmpjfaaW.PrintMore
set_option linter.unusedVariables false
set_option linter.unusedSimpArgs false

theorem rdT_nat (a : List S48) (i : Nat) : rd_T48 a (i : Int) = a.getD i z48 := by unfold rd_T48; rw [Int.toNat_natCast]

theorem back_l0 (a : List S48) (ha : a.length ≤ 1000000) : ∀ (i : Nat) (acc : List S48), i ≤ a.length → acc.length + i ≤ 1000000 → Ev (fun k => arc_Back.l0 k a acc ((i : Int) - 1)) (acc ++ (a.take i).reverse) := by
  intro i
  induction i with
  | zero =>
    intro acc hi hl
    refine Ev.step (f := fun _ => some acc) (fun k => ?_) (by simpa using Ev.now _)
    simp only [arc_Back.l0]
    rw [if_neg (by omega)]
  | succ i ih =>
    intro acc hi hl
    have h1 := ih (acc ++ [a.getD i z48]) (by omega) (by rw [List.length_append, List.length_singleton]; omega)
    have e : acc ++ [a.getD i z48] ++ (a.take i).reverse = acc ++ (a.take (i + 1)).reverse := by
      rw [← List.take_append_getElem (show i < a.length by omega), List.getD_eq_getElem?_getD, List.getElem?_eq_getElem (by omega)]
      simp only [Option.getD_some, List.reverse_append, List.reverse_singleton, List.singleton_append, List.append_assoc]
    rw [e] at h1
    refine Ev.step (fun k => ?_) h1
    simp only [arc_Back.l0]
    rw [show (((i + 1 : Nat) : Int) - 1) = (i : Int) by omega, if_pos (by omega), if_pos (by omega), if_pos (by omega), if_pos (by omega), rdT_nat, Mem.w64 (by omega) (by omega)]
theorem back_ev (a : List S48) (ha : a.length ≤ 1000000) : Ev (fun k => arc_Back.f k a) a.reverse := by
  have h1 := back_l0 a ha a.length [] (Nat.le_refl _) (by simp; omega)
  rw [List.take_length, List.nil_append] at h1
  refine Ev.congr (fun k => ?_) h1
  unfold arc_Back.f
  rw [Mem.w64 (by omega) (by omega)]

theorem pts_same (a : List S48) (ha : a.length ≤ 1000000) : Ev (fun k => lapidaryref07_SamePoints.f k a a) true := by
  have h1 : ∀ (d i : Nat), a.length - i = d → Ev (fun k => lapidaryref07_SamePoints.l0 k a a (i : Int)) true := by
    intro d
    induction d with
    | zero =>
      intro i hd
      refine Ev.step (f := fun _ => some true) (fun k => ?_) (Ev.now _)
      simp only [lapidaryref07_SamePoints.l0]
      rw [if_neg (by omega)]
    | succ d ih =>
      intro i hd
      refine Ev.step (fun k => ?_) (ih (i + 1) (by omega))
      simp only [lapidaryref07_SamePoints.l0]
      rw [if_pos (by omega), if_pos (by omega), if_pos (by omega), if_neg (by rw [eqs_self]; decide), Mem.w64 (by omega) (by omega)]
      rfl
  refine Ev.congr (fun k => ?_) (h1 a.length 0 rfl)
  unfold lapidaryref07_SamePoints.f
  rw [if_pos rfl]
  rfl

theorem eqP_symm (p q : S48) : eqP p q = eqP q p := by
  unfold eqP
  rw [Bool.beq_comm, Bool.beq_comm (a := p.f1), Bool.beq_comm (a := p.f2)]
theorem difF_iff : ∀ (q : S48) (a : List S48), difF q a = true ↔ ∀ i x y, (q :: a)[i]? = some x → (q :: a)[i + 1]? = some y → eqP y x = false := by
  intro q a
  induction a generalizing q with
  | nil => simp [difF]
  | cons p r ih =>
    rw [difF, Bool.and_eq_true, ih, Bool.not_eq_true']
    constructor
    · rintro ⟨h1, h2⟩ i x y hx hy
      cases i with
      | zero => simp at hx hy; subst hx; subst hy; exact h1
      | succ i => exact h2 i x y (by simpa using hx) (by simpa using hy)
    · intro h
      exact ⟨h 0 q p rfl rfl, fun i x y hx hy => h (i + 1) x y (by simpa using hx) (by simpa using hy)⟩
theorem difA_iff (a : List S48) : difA a = true ↔ ∀ i x y, a[i]? = some x → a[i + 1]? = some y → eqP y x = false := by
  cases a with
  | nil => simp [difA]
  | cons q a => exact difF_iff q a
theorem difA_rev (a : List S48) : difA a.reverse = difA a := by
  have h : ∀ b : List S48, difA b = true → difA b.reverse = true := by
    intro b hb
    rw [difA_iff] at hb ⊢
    intro i x y hx hy
    have hl : i + 1 < b.length := by have := (List.getElem?_eq_some_iff.1 hy).1; rwa [List.length_reverse] at this
    rw [List.getElem?_reverse (by omega)] at hx
    rw [List.getElem?_reverse (by omega)] at hy
    rw [eqP_symm]
    refine hb (b.length - 1 - (i + 1)) y x hy ?_
    rw [← hx]
    congr 1
    omega
  cases h1 : difA a with
  | true => exact h a h1
  | false =>
    cases h2 : difA a.reverse with
    | false => rfl
    | true => have := h _ h2; rw [List.reverse_reverse, h1] at this; cases this
theorem chk_rev (a : List S48) : chkS [a] = chkS [a.reverse] := by
  have h : okA a.reverse = okA a := by
    unfold okA
    rw [List.length_reverse, List.all_reverse, difA_rev]
  unfold chkS
  rw [show tot [a.reverse] = tot [a] by simp [tot], show [a.reverse].all okA = [a].all okA by simp only [List.all_cons, List.all_nil, h]]
  rfl

theorem Ev.one {α : Type} {g : Nat → Option α} {r s : α} (h1 : Ev g r) (h2 : Ev g s) : r = s := by
  obtain ⟨k1, h1⟩ := h1
  obtain ⟨k2, h2⟩ := h2
  have e1 := h1 (max k1 k2) (by omega)
  have e2 := h2 (max k1 k2) (by omega)
  rw [e1] at e2
  exact Option.some.inj e2

theorem two_l1 (l m : List (List S48)) (hl : l.length ≤ 10000000000000) (i : Nat) (a b : List S48) {ls ms : List (List S48)} (hi : l.drop i = a :: ls) (hm : m.drop i = b :: ms) (ha : a.length ≤ 10000000000000) (hab : a.length = b.length) (hn : ∃ r, Ev (fun k => arc_Same.l0 k l m (l.length : Int) ((i + 1 : Nat) : Int)) r ∧ Ev (fun k => lapidaryref15_Same.l0 k l m ((i + 1 : Nat) : Int)) r) : ∀ (d j : Nat), a.length - j = d →
    ∃ r, Ev (fun k => arc_Same.l1 k l m (i : Int) (l.length : Int) (i : Int) a (a.length : Int) (j : Int)) r ∧ Ev (fun k => lapidaryref15_Same.l1 k l m (i : Int) (j : Int)) r := by
  obtain ⟨hil, _, _⟩ := dropc (d := []) hi
  obtain ⟨him, _, _⟩ := dropc (d := []) hm
  intro d
  induction d with
  | zero =>
    intro j hd
    obtain ⟨r, h1, h2⟩ := hn
    refine ⟨r, Ev.step (fun k => ?_) h1, Ev.step (fun k => ?_) h2⟩
    · simp only [arc_Same.l1]
      rw [if_neg (by omega), Mem.w64 (by omega) (by omega)]
      rfl
    · simp only [lapidaryref15_Same.l1]
      rw [if_pos (by omega), if_pos (by omega), rdL hi, if_neg (by omega), Mem.w64 (by omega) (by omega)]
      rfl
  | succ d ih =>
    intro j hd
    by_cases hc : (!(((rd_T48 a (j : Int)).f0) == ((rd_T48 b (j : Int)).f0)) || (!(((rd_T48 a (j : Int)).f1) == ((rd_T48 b (j : Int)).f1)) || (!(((rd_T48 a (j : Int)).f2) == ((rd_T48 b (j : Int)).f2))))) = true
    · refine ⟨false, Ev.step (f := fun _ => some false) (fun k => ?_) (Ev.now _), Ev.step (f := fun _ => some false) (fun k => ?_) (Ev.now _)⟩
      · simp only [arc_Same.l1]
        rw [if_pos (by omega), if_pos (by omega), if_pos (by omega), if_pos (by omega), if_pos (by omega), rdL hm, if_pos (by omega), if_pos hc]
      · simp only [lapidaryref15_Same.l1]
        rw [if_pos (by omega), if_pos (by omega), rdL hi, if_pos (by omega), if_pos (by omega), if_pos (by omega), rdL hm, if_pos (by omega), if_pos hc]
    · obtain ⟨r, h1, h2⟩ := ih (j + 1) (by omega)
      refine ⟨r, Ev.step (fun k => ?_) h1, Ev.step (fun k => ?_) h2⟩
      · simp only [arc_Same.l1]
        rw [if_pos (by omega), if_pos (by omega), if_pos (by omega), if_pos (by omega), if_pos (by omega), rdL hm, if_pos (by omega), if_neg hc, Mem.w64 (by omega) (by omega)]
        rfl
      · simp only [lapidaryref15_Same.l1]
        rw [if_pos (by omega), if_pos (by omega), rdL hi, if_pos (by omega), if_pos (by omega), if_pos (by omega), rdL hm, if_pos (by omega), if_neg hc, Mem.w64 (by omega) (by omega)]
        rfl
theorem two_same {l m : List (List S48)} (h : okL l) : ∃ r, Ev (fun k => arc_Same.f k l m) r ∧ Ev (fun k => lapidaryref15_Same.f k l m) r := by
  have hl := h.1
  by_cases hlm : l.length = m.length
  · have h1 : ∀ (d i : Nat), l.length - i = d → ∃ r, Ev (fun k => arc_Same.l0 k l m (l.length : Int) (i : Int)) r ∧ Ev (fun k => lapidaryref15_Same.l0 k l m (i : Int)) r := by
      intro d
      induction d with
      | zero =>
        intro i hd
        refine ⟨true, Ev.step (f := fun _ => some true) (fun k => ?_) (Ev.now _), Ev.step (f := fun _ => some true) (fun k => ?_) (Ev.now _)⟩
        · simp only [arc_Same.l0]
          rw [if_neg (by omega)]
        · simp only [lapidaryref15_Same.l0]
          rw [if_neg (by omega)]
      | succ d ih =>
        intro i hd
        obtain ⟨a, ls, hi⟩ : ∃ a ls, l.drop i = a :: ls := ⟨_, _, List.drop_eq_getElem_cons (by omega)⟩
        obtain ⟨b, ms, hm⟩ : ∃ b ms, m.drop i = b :: ms := ⟨_, _, List.drop_eq_getElem_cons (by omega)⟩
        have ha : a.length ≤ 10000000000000 := h.2 a (List.mem_of_mem_drop (by rw [hi]; exact List.mem_cons_self ..))
        by_cases hab : (a.length : Int) = (b.length : Int)
        · obtain ⟨r, h1, h2⟩ := two_l1 l m hl i a b hi hm ha (by omega) (ih (i + 1) (by omega)) a.length 0 rfl
          refine ⟨r, Ev.step (fun k => ?_) h1, Ev.step (fun k => ?_) h2⟩
          · simp only [arc_Same.l0]
            rw [if_pos (by omega), if_pos (by omega), if_pos (by omega), if_pos (by omega), rdL hi, rdL hm, if_pos hab]
            rfl
          · simp only [lapidaryref15_Same.l0]
            rw [if_pos (by omega), if_pos (by omega), if_pos (by omega), rdL hi, rdL hm, if_pos hab]
            rfl
        · refine ⟨false, Ev.step (f := fun _ => some false) (fun k => ?_) (Ev.now _), Ev.step (f := fun _ => some false) (fun k => ?_) (Ev.now _)⟩
          · simp only [arc_Same.l0]
            rw [if_pos (by omega), if_pos (by omega), if_pos (by omega), if_pos (by omega), rdL hi, rdL hm, if_neg hab]
          · simp only [lapidaryref15_Same.l0]
            rw [if_pos (by omega), if_pos (by omega), if_pos (by omega), rdL hi, rdL hm, if_neg hab]
    obtain ⟨r, h1, h2⟩ := h1 l.length 0 rfl
    refine ⟨r, Ev.congr (fun k => ?_) h1, Ev.congr (fun k => ?_) h2⟩
    · unfold arc_Same.f
      rw [if_pos (by omega)]
      rfl
    · unfold lapidaryref15_Same.f
      rw [if_pos (by omega)]
      rfl
  · refine ⟨false, Ev.congr (f := fun _ => some false) (fun k => ?_) (Ev.now _), Ev.congr (f := fun _ => some false) (fun k => ?_) (Ev.now _)⟩
    · unfold arc_Same.f
      rw [if_neg (by omega)]
    · unfold lapidaryref15_Same.f
      rw [if_neg (by omega)]
theorem arc_refl {l : List (List S48)} (h : okL l) : Ev (fun k => arc_Same.f k l l) true := by
  obtain ⟨r, h1, h2⟩ := two_same (m := l) h
  rw [Ev.one h2 (same_refl h)] at h1
  exact h1
theorem rev_at (a : List S48) (i : Nat) (hi : i < a.length) : a.reverse.getD i z48 = a.getD (a.length - 1 - i) z48 := by
  rw [List.getD_eq_getElem?_getD, List.getD_eq_getElem?_getD, List.getElem?_reverse hi]
end Go.Proofs.Ytmfeokapjmpjfaa.ArcW
