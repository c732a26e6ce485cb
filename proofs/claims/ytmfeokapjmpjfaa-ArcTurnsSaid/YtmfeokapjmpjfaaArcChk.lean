/- arc.Check and the document's Check, told plainly. -/
import Derived.Test.YtmfeokapjmpjfaaArcNums
namespace Go.Proofs.Ytmfeokapjmpjfaa.ArcW
open Go Go.RowKit Go.Proofs.Ytmfeokapjmpjfaa.Mem Go.Proofs.Ytmfeokapjmpjfaa.VM Go.Proofs.Ytmfeokapjmpjfaa.VB Go.Proofs.Ytmfeokapjmpjfaa.PArc Go.Proofs.YtmfeokapjmpjfaaW.PrintWords Go.Proofs.YtmfeokapjmpjfaaW.PrintLast Go.Proofs.YtmfeokapjmpjfaaW.PrintMore
set_option linter.unusedVariables false
set_option linter.unusedSimpArgs false

theorem dropc {α : Type} {xs cs : List α} {c d : α} {i : Nat} (h : xs.drop i = c :: cs) : i < xs.length ∧ xs.drop (i + 1) = cs ∧ xs.getD i d = c := by
  have hlt : i < xs.length := by
    rcases Nat.lt_or_ge i xs.length with h1 | h1
    · exact h1
    · rw [List.drop_eq_nil_iff.2 h1] at h; cases h
  have := List.drop_eq_getElem_cons hlt
  rw [h] at this
  injection this with h1 h2
  exact ⟨hlt, h2.symm, by rw [List.getD_eq_getElem?_getD, List.getElem?_eq_getElem hlt]; exact h1.symm⟩
theorem dropn {α : Type} {xs : List α} {i : Nat} (h : xs.drop i = []) : xs.length ≤ i := List.drop_eq_nil_iff.1 h

/-- From a point on, behind another one or none. -/
def okF : Option S48 → List S48 → Bool
  | _, [] => true
  | none, p :: r => decide (rgt p) && okF (some p) r
  | some q, p :: r => decide (rgt p) && (!eqP p q && okF (some p) r)
theorem okF_some (q : S48) (a : List S48) : okF (some q) a = (a.all (fun p => decide (rgt p)) && difF q a) := by
  induction a generalizing q with
  | nil => rfl
  | cons p r ih =>
    rw [okF, ih, difF, List.all_cons]
    cases decide (rgt p) <;> cases (r.all fun p => decide (rgt p)) <;> cases eqP p q <;> cases difF p r <;> rfl
theorem okF_none (a : List S48) : okF none a = (a.all (fun p => decide (rgt p)) && difA a) := by
  cases a with
  | nil => rfl
  | cons p r => rw [okF, okF_some, List.all_cons, difA, Bool.and_assoc]

theorem right_rgt (p : S48) : arc_right.f p.f0 p.f1 p.f2 = some (decide (rgt p)) := by
  rw [rightV_eq]
  congr 1
  unfold rightV arc_right.f
  split
  · split
    · split
      · split
        · simp only [Option.getD_some]; unfold rgt; apply decide_eq_decide.2; omega
        · simp only [Option.getD_some]; unfold rgt; symm; apply decide_eq_false; omega
      · simp only [Option.getD_some]; unfold rgt; symm; apply decide_eq_false; omega
    · simp only [Option.getD_some]; unfold rgt; symm; apply decide_eq_false; omega
  · simp only [Option.getD_some]; unfold rgt; symm; apply decide_eq_false; omega

theorem rdT {a cs : List S48} {c : S48} {i : Nat} (h : a.drop i = c :: cs) : rd_T48 a (i : Int) = c := by
  unfold rd_T48
  rw [Int.toNat_natCast]
  exact (dropc h).2.2
theorem rdL {l cs : List (List S48)} {c : List S48} {i : Nat} (h : l.drop i = c :: cs) : rd_L2 l (i : Int) = c := by
  unfold rd_L2
  rw [Int.toNat_natCast]
  exact (dropc h).2.2

/-- The last one of the first i. -/
def prev (a : List S48) (i : Nat) : Option S48 := if i = 0 then none else some (a.getD (i - 1) z48)

theorem prev_succ {a cs : List S48} {c : S48} {i : Nat} (h : a.drop i = c :: cs) : prev a (i + 1) = some c := by
  unfold prev
  rw [if_neg (by omega), Nat.add_sub_cancel, (dropc h).2.2]

theorem chk_l2 (l : List (List S48)) (i : Nat) (hl : l.length ≤ 100000000000000000) (r : Int) (hn : ∀ (hok : True), Ev (fun k => arc_Check.l1 k l (l.length : Int) (wrap64 ((i : Int) + 1))) r) (a : List S48) (ha : a.length ≤ 100000000000000000) : ∀ (cs : List S48) (j : Nat), a.drop j = cs →
    Ev (fun k => arc_Check.l2 k a l (l.length : Int) (i : Int) a (a.length : Int) (j : Int)) (if okF (prev a j) cs = true then r else 2) := by
  intro cs
  induction cs with
  | nil =>
    intro j h
    have := dropn h
    rw [show okF (prev a j) [] = true by cases prev a j <;> rfl, if_pos rfl]
    refine Ev.step (fun k => ?_) (hn trivial)
    simp only [arc_Check.l2]
    rw [if_neg (by omega)]
  | cons c cs ih =>
    intro j h
    obtain ⟨hlt, hd, _⟩ := dropc (d := z48) h
    have hp := rdT h
    have hn1 : wrap64 ((j : Int) + 1) = ((j + 1 : Nat) : Int) := by rw [Mem.w64 (by omega) (by omega)]; omega
    by_cases hr : rgt c
    · by_cases h0 : j = 0
      · subst h0
        rw [show okF (prev a 0) (c :: cs) = okF (some c) cs by rw [show prev a 0 = none from rfl, okF, decide_eq_true hr, Bool.true_and]]
        have h1 := ih 1 hd
        rw [prev_succ h] at h1
        refine Ev.step (fun k => ?_) h1
        simp only [arc_Check.l2]
        rw [if_pos (by omega), if_pos (by omega), if_pos (by omega), hp, right_rgt, decide_eq_true hr]
        simp only [Option.bind_some, if_true]
        rw [if_neg (by omega), hn1]
      · have e1 : wrap64 ((j : Int) - 1) = ((j - 1 : Nat) : Int) := by rw [Mem.w64 (by omega) (by omega)]; omega
        have e2 : rd_T48 a ((j - 1 : Nat) : Int) = a.getD (j - 1) z48 := by unfold rd_T48; rw [Int.toNat_natCast]
        rw [show prev a j = some (a.getD (j - 1) z48) by unfold prev; rw [if_neg h0], okF, decide_eq_true hr, Bool.true_and]
        by_cases he : eqP c (a.getD (j - 1) z48) = true
        · rw [he, Bool.not_true, Bool.false_and, if_neg (by decide)]
          refine Ev.step (f := fun _ => some 2) (fun k => ?_) (Ev.now _)
          simp only [arc_Check.l2]
          rw [if_pos (by omega), if_pos (by omega), if_pos (by omega), hp, right_rgt, decide_eq_true hr]
          simp only [Option.bind_some, if_true]
          rw [if_pos (by omega), e1, if_pos (by omega), if_pos (by omega), e2]
          exact if_pos he
        · have he' : eqP c (a.getD (j - 1) z48) = false := by simpa using he
          have h1 := ih (j + 1) hd
          rw [prev_succ h] at h1
          rw [he', Bool.not_false, Bool.true_and]
          refine Ev.step (fun k => ?_) h1
          simp only [arc_Check.l2]
          rw [if_pos (by omega), if_pos (by omega), if_pos (by omega), hp, right_rgt, decide_eq_true hr]
          simp only [Option.bind_some, if_true]
          rw [if_pos (by omega), e1, if_pos (by omega), if_pos (by omega), e2]
          exact (if_neg he).trans (by rw [hn1])
    · rw [show okF (prev a j) (c :: cs) = false by cases prev a j <;> rw [okF, decide_eq_false hr, Bool.false_and], if_neg (by decide)]
      refine Ev.step (f := fun _ => some 2) (fun k => ?_) (Ev.now _)
      simp only [arc_Check.l2]
      rw [if_pos (by omega), if_pos (by omega), if_pos (by omega), hp, right_rgt, decide_eq_false hr]
      simp only [Option.bind_some, Bool.false_eq_true, if_false]

theorem chk_l1 (l : List (List S48)) (hl : l.length ≤ 100000000000000000) (ha : ∀ a ∈ l, a.length ≤ 100000000000000000) : ∀ (cs : List (List S48)) (i : Nat), l.drop i = cs →
    Ev (fun k => arc_Check.l1 k l (l.length : Int) (i : Int)) (if cs.all okA = true then 0 else 2) := by
  intro cs
  induction cs with
  | nil =>
    intro i h
    have := dropn h
    refine Ev.step (f := fun _ => some 0) (fun k => ?_) (Ev.now _)
    simp only [arc_Check.l1]
    rw [if_neg (by omega)]
  | cons c cs ih =>
    intro i h
    obtain ⟨hlt, hd, _⟩ := dropc (d := []) h
    have hp := rdL h
    have hc : c.length ≤ 100000000000000000 := ha c (List.mem_of_mem_drop (by rw [h]; exact List.mem_cons_self ..))
    have hn1 : wrap64 ((i : Int) + 1) = ((i + 1 : Nat) : Int) := by rw [Mem.w64 (by omega) (by omega)]; omega
    by_cases h2 : c.length < 2
    · rw [show (c :: cs).all okA = false by rw [List.all_cons, show okA c = false by unfold okA; rw [decide_eq_false (by omega), Bool.false_and], Bool.false_and], if_neg (by decide)]
      refine Ev.step (f := fun _ => some 2) (fun k => ?_) (Ev.now _)
      simp only [arc_Check.l1]
      rw [if_pos (by omega), if_pos (by omega), if_pos (by omega), hp, if_pos (by omega)]
    · have h1 := chk_l2 l i hl _ (fun _ => by rw [hn1]; exact ih (i + 1) hd) c hc c 0 (List.drop_zero ..)
      have e : (if okF (prev c 0) c = true then (if cs.all okA = true then (0 : Int) else 2) else 2) = if (c :: cs).all okA = true then 0 else 2 := by
        rw [show prev c 0 = none from rfl, okF_none, List.all_cons, okA, decide_eq_true (by omega : 2 ≤ c.length), Bool.true_and]
        cases (c.all fun p => decide (rgt p)) && difA c <;> cases cs.all okA <;> rfl
      rw [e] at h1
      refine Ev.step (fun k => ?_) h1
      simp only [arc_Check.l1]
      rw [if_pos (by omega), if_pos (by omega), if_pos (by omega), hp, if_neg (by omega)]
      rfl

theorem tot_drop (l : List (List S48)) : ∀ i, tot (l.drop i) ≤ tot l := by
  induction l with
  | nil => intro i; simp
  | cons a l ih =>
    intro i
    cases i with
    | zero => exact Nat.le_refl _
    | succ i => rw [List.drop_succ_cons, tot_cons]; have := ih i; omega
theorem tot_mem {l : List (List S48)} {a : List S48} (h : a ∈ l) : a.length ≤ tot l := by
  induction l with
  | nil => cases h
  | cons b l ih =>
    rw [tot_cons]
    rcases List.mem_cons.1 h with rfl | h
    · omega
    · have := ih h; omega

theorem chk_l0 (l : List (List S48)) (hl : l.length ≤ 100000000000000000) (ht : tot l ≤ 100000000000000000) : ∀ (cs : List (List S48)) (i n : Nat), l.drop i = cs → n + tot cs = tot l →
    Ev (fun k => arc_Check.l0 k l (n : Int) l (l.length : Int) (i : Int)) (chkS l) := by
  intro cs
  induction cs with
  | nil =>
    intro i n h hn
    have := dropn h
    simp only [tot, List.map_nil, List.sum_nil] at hn
    have hlast : ∀ b : Bool, b = decide (l.length > 2000 ∨ tot l > 20000) → Ev (fun k => arc_Check.j1 k l b) (chkS l) := by
      intro b hb
      unfold chkS
      by_cases h3 : l.length > 2000 ∨ tot l > 20000
      · rw [if_pos h3]
        refine Ev.step (f := fun _ => some 3) (fun k => ?_) (Ev.now _)
        simp only [arc_Check.j1]
        rw [if_pos (by rw [hb]; exact decide_eq_true h3)]
      · rw [if_neg h3]
        refine Ev.step (fun k => ?_) (chk_l1 l hl (fun a ha => by have := tot_mem ha; omega) l 0 (List.drop_zero ..))
        simp only [arc_Check.j1]
        rw [if_neg (by rw [hb, decide_eq_false h3]; decide)]
        rfl
    by_cases h2 : l.length > 2000
    · refine Ev.step (fun k => ?_) (hlast true (decide_eq_true (.inl h2)).symm)
      simp only [arc_Check.l0]
      rw [if_neg (by omega), if_pos (by omega)]
    · refine Ev.step (fun k => ?_) (hlast (decide ((n : Int) > 20000)) (decide_eq_decide.2 (by simp only [tot]; omega)))
      simp only [arc_Check.l0]
      rw [if_neg (by omega), if_neg (by omega)]
  | cons c cs ih =>
    intro i n h hn
    obtain ⟨hlt, hd, _⟩ := dropc (d := []) h
    have hp := rdL h
    rw [tot_cons] at hn
    refine Ev.step (fun k => ?_) (ih (i + 1) (n + c.length) hd (by omega))
    simp only [arc_Check.l0]
    rw [if_pos (by omega), if_pos (by omega), if_pos (by omega), hp, Mem.w64 (by omega) (by omega), Mem.w64 (by omega) (by omega)]
    rfl

theorem chk_ev (l : List (List S48)) (hl : l.length ≤ 100000000000000000) (ht : tot l ≤ 100000000000000000) : Ev (fun k => arc_Check.f k l) (chkS l) := chk_l0 l hl ht l 0 0 (List.drop_zero ..) (by omega)
end Go.Proofs.Ytmfeokapjmpjfaa.ArcW
