/- arc.Encode and the document's Check and Encode, told plainly. -/
import Derived.Test.YtmfeokapjmpjfaaArcChk
import Derived.Test.YtmfeokapjmpjfaaArcVB2
namespace Go.Proofs.Ytmfeokapjmpjfaa.ArcW
open Go Go.RowKit Go.Proofs.Ytmfeokapjmpjfaa.Mem Go.Proofs.Ytmfeokapjmpjfaa.VM Go.Proofs.Ytmfeokapjmpjfaa.VB Go.Proofs.Ytmfeokapjmpjfaa.PArc Go.Proofs.YtmfeokapjmpjfaaW.PrintWords Go.Proofs.YtmfeokapjmpjfaaW.PrintLast Go.Proofs.YtmfeokapjmpjfaaW.PrintMore
set_option linter.unusedVariables false
set_option linter.unusedSimpArgs false

theorem num_put {n : Nat} (h : n < 18446744073709551616) : Ev (fun k => vint_Put.f k [IntKind.u64.wrap (n : Int)]) (enc n) := by
  rw [VB.u64 (by omega) (by omega)]
  exact put_one n h

theorem enc_l1 (l : List (List S48)) (i : Nat) (hi : i ≤ 1000000000) (r : List Int × Int) (a : List S48) (ha : a.length ≤ 1000000000) : ∀ (cs : List S48) (j : Nat) (out : List Int) (p : S48), a.drop j = cs → (∀ q ∈ cs, rgt q) → near p → out.length + 20 * cs.length ≤ 1000000000 →
    Ev (fun k => arc_Encode.l0 k (out ++ VB.encs (deltas p cs)) l (l.length : Int) ((i + 1 : Nat) : Int) (lastP p cs).f0 (lastP p cs).f1 (lastP p cs).f2) r →
    Ev (fun k => arc_Encode.l1 k out l (l.length : Int) (i : Int) a (a.length : Int) (j : Int) p.f0 p.f1 p.f2) r := by
  intro cs
  induction cs with
  | nil =>
    intro j out p h hr hp hl hn
    have := dropn h
    refine Ev.step (fun k => ?_) hn
    simp only [arc_Encode.l1]
    rw [if_neg (by omega), Mem.w64 (by omega) (by omega)]
    simp only [deltas, VB.encs_nil, List.append_nil, lastP]
    rfl
  | cons c cs ih =>
    intro j out p h hr hp hl hn
    obtain ⟨hlt, hd, _⟩ := dropc (d := z48) h
    have hc := hr c (List.mem_cons_self ..)
    have hcn := hc.near
    have hz := zig_near hcn hp
    have hl' := hl
    rw [List.length_cons] at hl'
    have l0 := enc_len10 (n := (zig (c.f0 - p.f0)).toNat) (by omega)
    have l1 := enc_len10 (n := (zig (c.f1 - p.f1)).toNat) (by omega)
    have hpp := hp
    unfold near at hpp hcn
    have h1 := ih (j + 1) (out ++ enc (zig (c.f0 - p.f0)).toNat ++ enc (zig (c.f1 - p.f1)).toNat) c hd (fun x hx => hr x (List.mem_cons_of_mem _ hx)) hc.near (by rw [List.length_append, List.length_append]; omega) (by
      simpa only [deltas, VB.encs_cons, List.append_assoc, lastP] using hn)
    have b0 := putInt_ev (n := c.f0 - p.f0) (by omega)
    have b1 := putInt_ev (n := c.f1 - p.f1) (by omega)
    refine Ev.step (f := fun k => (vint_PutInt.f k (c.f0 - p.f0)).bind fun t143 => (if out.length + t143.length < 140737488355328 then ((some (out ++ t143 : List Int)).bind fun y146 => ((vint_PutInt.f k (c.f1 - p.f1)).bind fun t149 => (if y146.length + t149.length < 140737488355328 then (arc_Encode.l1 k (y146 ++ t149) l (l.length : Int) (i : Int) a (a.length : Int) ((j + 1 : Nat) : Int) c.f0 c.f1 c.f2) else (none)))) else (none))) (fun k => ?_) (Ev.bind b0 (Ev.congr (fun k => ?_) (Ev.bind (f := fun k t149 => (if (out ++ enc (zig (c.f0 - p.f0)).toNat).length + t149.length < 140737488355328 then (arc_Encode.l1 k ((out ++ enc (zig (c.f0 - p.f0)).toNat) ++ t149) l (l.length : Int) (i : Int) a (a.length : Int) ((j + 1 : Nat) : Int) c.f0 c.f1 c.f2) else (none))) b1 (Ev.congr (fun k => ?_) h1))))
    · simp only [arc_Encode.l1]
      rw [if_pos (by omega), if_pos (by omega), if_pos (by omega), rdT h, Mem.w64 (by omega) (by omega), Mem.w64 (x := c.f1 - p.f1) (by omega) (by omega), Mem.w64 (x := (j : Int) + 1) (by omega) (by omega)]
      rfl
    · rw [if_pos (by omega)]
      rfl
    · rw [if_pos (by rw [List.length_append]; omega)]

theorem enc_l0 (l : List (List S48)) (hl : l.length ≤ 1000000) : ∀ (cs : List (List S48)) (i : Nat) (out : List Int) (p : S48), l.drop i = cs → (∀ a ∈ cs, ∀ q ∈ a, rgt q) → near p → out.length + 10 * (cs.length + 2 * tot cs) ≤ 100000000 →
    Ev (fun k => arc_Encode.l0 k out l (l.length : Int) (i : Int) p.f0 p.f1 p.f2) (out ++ VB.encs (arcNums p cs), 0) := by
  intro cs
  induction cs with
  | nil =>
    intro i out p h hr hp ho
    have := dropn h
    refine Ev.step (f := fun _ => some (out, 0)) (fun k => ?_) (by simpa only [arcNums, VB.encs_nil, List.append_nil] using Ev.now _)
    simp only [arc_Encode.l0]
    rw [if_neg (by omega)]
  | cons c cs ih =>
    intro i out p h hr hp ho
    obtain ⟨hlt, hd, _⟩ := dropc (d := []) h
    have hc := hr c (List.mem_cons_self ..)
    rw [tot_cons, List.length_cons] at ho
    have hlc := encs_len10 (deltas_u64 hp hc)
    rw [deltas_len] at hlc
    have hle := enc_len10 (n := c.length) (by omega)
    have h1 := ih (i + 1) (out ++ enc c.length ++ VB.encs (deltas p c)) (lastP p c) hd (fun x hx => hr x (List.mem_cons_of_mem _ hx)) (lastP_near hp hc) (by rw [List.length_append, List.length_append]; omega)
    have h2 := enc_l1 l i (by omega) _ c (by omega) c 0 (out ++ enc c.length) p (List.drop_zero ..) hc hp (by rw [List.length_append]; omega) h1
    rw [show (out ++ VB.encs (arcNums p (c :: cs)), (0 : Int)) = (out ++ enc c.length ++ VB.encs (deltas p c) ++ VB.encs (arcNums (lastP p c) cs), 0) by simp only [arcNums, VB.encs_cons, VB.encs_append, Int.toNat_natCast, List.append_assoc]]
    refine Ev.step (f := fun k => (vint_Put.f k (([IntKind.u64.wrap ((c.length : Int))] : List Int))).bind fun t135 => (if out.length + t135.length < 140737488355328 then (arc_Encode.l1 k (out ++ t135) l (l.length : Int) (i : Int) c (c.length : Int) 0 p.f0 p.f1 p.f2) else (none))) (fun k => ?_) (Ev.bind (num_put (n := c.length) (by omega)) (Ev.congr (fun k => ?_) h2))
    · simp only [arc_Encode.l0]
      rw [if_pos (by omega), if_pos (by omega), if_pos (by omega), rdL h]
    · rw [if_pos (by omega)]
      rfl

/-- What arc.Encode tells. -/
def encR (l : List (List S48)) : List Int × Int := if chkS l = 0 then (VB.encs (nums l), 0) else ([], chkS l)

theorem encode_ev (l : List (List S48)) (hl : l.length ≤ 100000000000000000) (ht : tot l ≤ 100000000000000000) : Ev (fun k => arc_Encode.f k l) (encR l) := by
  unfold encR
  by_cases hc : chkS l = 0
  · have h1 := chk0 hc
    have hle := enc_len10 (n := l.length) (by omega)
    have h2 := enc_l0 l (by omega) l 0 (enc l.length) z48 (List.drop_zero ..) (chk0_rgt hc) near_z (by omega)
    rw [if_pos hc, show (VB.encs (nums l), (0 : Int)) = (enc l.length ++ VB.encs (arcNums z48 l), 0) by simp only [nums, VB.encs_cons, Int.toNat_natCast]]
    refine Ev.congr (f := fun k => (arc_Check.f k l).bind fun t123 => (if t123 = 0 then ((vint_Put.f k (([IntKind.u64.wrap ((l.length : Int))] : List Int))).bind fun t127 => (arc_Encode.l0 k t127 l (l.length : Int) 0 0 0 0)) else (some (([] : List Int), t123)))) (fun k => ?_) (Ev.bind (chk_ev l hl ht) (Ev.congr (fun k => ?_) (Ev.bind (f := fun k t127 => arc_Encode.l0 k t127 l (l.length : Int) 0 0 0 0) (num_put (n := l.length) (by omega)) h2)))
    · rfl
    · rw [if_pos hc]
  · rw [if_neg hc]
    refine Ev.congr (f := fun k => (arc_Check.f k l).bind fun t123 => (if t123 = 0 then ((vint_Put.f k (([IntKind.u64.wrap ((l.length : Int))] : List Int))).bind fun t127 => (arc_Encode.l0 k t127 l (l.length : Int) 0 0 0 0)) else (some (([] : List Int), t123)))) (fun k => ?_) (Ev.bind (chk_ev l hl ht) (Ev.congr (fun k => ?_) (Ev.now _)))
    · rfl
    · rw [if_neg hc]

/-! ### The document's Check -/
theorem rright_l0 (a : List S48) (ha : a.length ≤ 100000000000000000) : ∀ (cs : List S48) (j : Nat), a.drop j = cs → Ev (fun k => lapidaryref09_Right.l0 k a (j : Int)) (cs.all (fun p => decide (rgt p))) := by
  intro cs
  induction cs with
  | nil =>
    intro j h
    have := dropn h
    refine Ev.step (f := fun _ => some true) (fun k => ?_) (Ev.now _)
    simp only [lapidaryref09_Right.l0]
    rw [if_neg (by omega)]
  | cons c cs ih =>
    intro j h
    obtain ⟨hlt, hd, _⟩ := dropc (d := z48) h
    have e1 : wrap64 ((j : Int) + 1) = ((j + 1 : Nat) : Int) := by rw [Mem.w64 (by omega) (by omega)]; omega
    by_cases hc : rgt c
    · rw [List.all_cons, decide_eq_true hc, Bool.true_and]
      refine Ev.step (fun k => ?_) (ih (j + 1) hd)
      unfold rgt at hc
      simp only [lapidaryref09_Right.l0]
      rw [if_pos (by omega), if_pos (by omega), rdT h, if_neg (by omega), if_neg (by omega), if_neg (by omega), if_neg (by omega), if_pos (by omega), e1]
    · rw [List.all_cons, decide_eq_false hc, Bool.false_and]
      refine Ev.step (f := fun _ => some false) (fun k => ?_) (Ev.now _)
      unfold rgt at hc
      simp only [lapidaryref09_Right.l0]
      rw [if_pos (by omega), if_pos (by omega), rdT h]
      repeat' split
      all_goals first | rfl | omega
theorem rright_ev (a : List S48) (ha : a.length ≤ 100000000000000000) : Ev (fun k => lapidaryref09_Right.f k a) (a.all (fun p => decide (rgt p))) := rright_l0 a ha a 0 (List.drop_zero ..)

theorem rchk_l2 (l : List (List S48)) (hl : l.length ≤ 100000000000000000) (i : Nat) (a : List S48) {ls : List (List S48)} (hi : l.drop i = a :: ls) (ha : a.length ≤ 100000000000000000) (r : Int) (hn : Ev (fun k => lapidaryref15_Check.l1 k l ((i + 1 : Nat) : Int)) r) : ∀ (cs : List S48) (j : Nat) (q : S48), a.drop (j + 1) = cs → a.getD j z48 = q → j < a.length →
    Ev (fun k => lapidaryref15_Check.l2 k l (i : Int) ((j + 1 : Nat) : Int)) (if difF q cs = true then r else 2) := by
  obtain ⟨hil, _, _⟩ := dropc (d := []) hi
  intro cs
  induction cs with
  | nil =>
    intro j q h hq hj
    have := dropn h
    rw [difF, if_pos rfl]
    refine Ev.step (fun k => ?_) hn
    simp only [lapidaryref15_Check.l2]
    rw [if_pos (by omega), if_pos (by omega), rdL hi, if_neg (by omega), Mem.w64 (by omega) (by omega)]
    rfl
  | cons c cs ih =>
    intro j q h hq hj
    obtain ⟨hlt, hd, hg⟩ := dropc (d := z48) h
    have e1 : wrap64 (((j + 1 : Nat) : Int) - 1) = (j : Int) := by rw [Mem.w64 (by omega) (by omega)]; omega
    have e2 : wrap64 (((j + 1 : Nat) : Int) + 1) = ((j + 1 + 1 : Nat) : Int) := by rw [Mem.w64 (by omega) (by omega)]; omega
    have e3 : rd_T48 a (j : Int) = q := by unfold rd_T48; rw [Int.toNat_natCast, hq]
    have e4 : rd_T48 a ((j + 1 : Nat) : Int) = c := rdT h
    by_cases he : eqP c q = true
    · rw [difF, he, Bool.not_true, Bool.false_and, if_neg (by decide)]
      refine Ev.step (f := fun _ => some 2) (fun k => ?_) (Ev.now _)
      simp only [lapidaryref15_Check.l2]
      rw [if_pos (by omega), if_pos (by omega), rdL hi, if_pos (by omega), if_pos (by omega), e1, if_pos (by omega), if_pos (by omega), e3, e4]
      exact if_pos he
    · have he' : eqP c q = false := by simpa using he
      rw [difF, he', Bool.not_false, Bool.true_and]
      refine Ev.step (fun k => ?_) (ih (j + 1) c hd hg hlt)
      simp only [lapidaryref15_Check.l2]
      rw [if_pos (by omega), if_pos (by omega), rdL hi, if_pos (by omega), if_pos (by omega), e1, if_pos (by omega), if_pos (by omega), e3, e4]
      exact (if_neg he).trans (by rw [e2])

theorem rchk_l1 (l : List (List S48)) (hl : l.length ≤ 100000000000000000) (ha : ∀ a ∈ l, a.length ≤ 100000000000000000) : ∀ (cs : List (List S48)) (i : Nat), l.drop i = cs →
    Ev (fun k => lapidaryref15_Check.l1 k l (i : Int)) (if cs.all okA = true then 0 else 2) := by
  intro cs
  induction cs with
  | nil =>
    intro i h
    have := dropn h
    refine Ev.step (f := fun _ => some 0) (fun k => ?_) (Ev.now _)
    simp only [lapidaryref15_Check.l1]
    rw [if_neg (by omega)]
  | cons c cs ih =>
    intro i h
    obtain ⟨hlt, hd, _⟩ := dropc (d := []) h
    have hc : c.length ≤ 100000000000000000 := ha c (List.mem_of_mem_drop (by rw [h]; exact List.mem_cons_self ..))
    have hbad : Ev (fun k => lapidaryref15_Check.j3 k l (i : Int) true) 2 := by
      refine Ev.step (f := fun _ => some 2) (fun k => ?_) (Ev.now _)
      simp only [lapidaryref15_Check.j3, if_true]
    by_cases h2 : c.length < 2
    · rw [show (c :: cs).all okA = false by rw [List.all_cons, show okA c = false by unfold okA; rw [decide_eq_false (by omega), Bool.false_and], Bool.false_and], if_neg (by decide)]
      refine Ev.step (fun k => ?_) hbad
      simp only [lapidaryref15_Check.l1]
      rw [if_pos (by omega), if_pos (by omega), rdL h, if_pos (by omega)]
    · have hr := rright_ev c hc
      have hfin : Ev (fun k => lapidaryref15_Check.j3 k l (i : Int) (!(c.all (fun p => decide (rgt p))))) (if (c :: cs).all okA = true then 0 else 2) := by
        rw [List.all_cons, okA, decide_eq_true (by omega : 2 ≤ c.length), Bool.true_and]
        cases hall : c.all (fun p => decide (rgt p)) with
        | false =>
          rw [Bool.false_and, Bool.false_and, if_neg (by decide)]
          exact hbad
        | true =>
          obtain ⟨p, a, rfl⟩ : ∃ p a, c = p :: a := by cases c with
            | nil => simp at h2
            | cons p a => exact ⟨p, a, rfl⟩
          have h1 := rchk_l2 l hl i (p :: a) h hc _ (ih (i + 1) hd) a 0 p rfl rfl (by simp)
          rw [show (if difF p a = true then (if cs.all okA = true then (0 : Int) else 2) else 2) = if (true && difA (p :: a) && cs.all okA) = true then 0 else 2 by rw [difA]; cases difF p a <;> cases cs.all okA <;> rfl] at h1
          refine Ev.step (fun k => ?_) h1
          simp only [lapidaryref15_Check.j3]
          rw [if_neg (by decide)]
          rfl
      refine Ev.step (f := fun k => (lapidaryref09_Right.f k c).bind fun t200 => (lapidaryref15_Check.j3 k l (i : Int) (!t200))) (fun k => ?_) (Ev.bind hr hfin)
      simp only [lapidaryref15_Check.l1]
      rw [if_pos (by omega), if_pos (by omega), rdL h, if_neg (by omega)]

theorem rchk_l0 (l : List (List S48)) (hl : l.length ≤ 100000000000000000) (ht : tot l ≤ 100000000000000000) : ∀ (cs : List (List S48)) (i n : Nat), l.drop i = cs → n + tot cs = tot l →
    Ev (fun k => lapidaryref15_Check.l0 k l (n : Int) (i : Int)) (chkS l) := by
  intro cs
  induction cs with
  | nil =>
    intro i n h hn
    have := dropn h
    simp only [tot, List.map_nil, List.sum_nil] at hn
    have hlast : ∀ b : Bool, b = decide (l.length > 2000 ∨ tot l > 20000) → Ev (fun k => lapidaryref15_Check.j1 k l b) (chkS l) := by
      intro b hb
      unfold chkS
      by_cases h3 : l.length > 2000 ∨ tot l > 20000
      · rw [if_pos h3]
        refine Ev.step (f := fun _ => some 3) (fun k => ?_) (Ev.now _)
        simp only [lapidaryref15_Check.j1]
        rw [if_pos (by rw [hb]; exact decide_eq_true h3)]
      · rw [if_neg h3]
        refine Ev.step (fun k => ?_) (rchk_l1 l hl (fun a ha => by have := tot_mem ha; omega) l 0 (List.drop_zero ..))
        simp only [lapidaryref15_Check.j1]
        rw [if_neg (by rw [hb, decide_eq_false h3]; decide)]
        rfl
    by_cases h2 : l.length > 2000
    · refine Ev.step (fun k => ?_) (hlast true (decide_eq_true (.inl h2)).symm)
      simp only [lapidaryref15_Check.l0]
      rw [if_neg (by omega), if_pos (by omega)]
    · refine Ev.step (fun k => ?_) (hlast (decide ((n : Int) > 20000)) (decide_eq_decide.2 (by simp only [tot]; omega)))
      simp only [lapidaryref15_Check.l0]
      rw [if_neg (by omega), if_neg (by omega)]
  | cons c cs ih =>
    intro i n h hn
    obtain ⟨hlt, hd, _⟩ := dropc (d := []) h
    have hp := rdL h
    rw [tot_cons] at hn
    refine Ev.step (fun k => ?_) (ih (i + 1) (n + c.length) hd (by omega))
    simp only [lapidaryref15_Check.l0]
    rw [if_pos (by omega), if_pos (by omega), hp, Mem.w64 (by omega) (by omega), Mem.w64 (by omega) (by omega)]
    rfl
theorem rchk_ev (l : List (List S48)) (hl : l.length ≤ 100000000000000000) (ht : tot l ≤ 100000000000000000) : Ev (fun k => lapidaryref15_Check.f k l) (chkS l) := rchk_l0 l hl ht l 0 0 (List.drop_zero ..) (by omega)

/-! ### The document's Encode -/
theorem rnum_put {n : Nat} (h : n < 18446744073709551616) : Ev (fun k => lapidaryref01_Put.f k (IntKind.u64.wrap (n : Int))) (enc n) := by
  rw [VB.u64 (by omega) (by omega)]
  exact rput_ev n h

theorem renc_l1 (l : List (List S48)) (i : Nat) (r : List Int × Int) (a : List S48) {ls : List (List S48)} (hi : l.drop i = a :: ls) (hl : l.length ≤ 1000000) (ha : a.length ≤ 1000000000) : ∀ (cs : List S48) (j : Nat) (out : List Int) (p : S48), a.drop j = cs → (∀ q ∈ cs, rgt q) → near p → out.length + 20 * cs.length ≤ 1000000000 →
    Ev (fun k => lapidaryref15_Encode.l0 k l (out ++ VB.encs (deltas p cs)) (lastP p cs).f0 (lastP p cs).f1 ((i + 1 : Nat) : Int)) r →
    Ev (fun k => lapidaryref15_Encode.l1 k l out p.f0 p.f1 (i : Int) (j : Int)) r := by
  obtain ⟨hil, _, _⟩ := dropc (d := []) hi
  intro cs
  induction cs with
  | nil =>
    intro j out p h hr hp hl2 hn
    have := dropn h
    refine Ev.step (fun k => ?_) hn
    simp only [lapidaryref15_Encode.l1]
    rw [if_pos (by omega), if_pos (by omega), rdL hi, if_neg (by omega), Mem.w64 (by omega) (by omega)]
    simp only [deltas, VB.encs_nil, List.append_nil, lastP]
    rfl
  | cons c cs ih =>
    intro j out p h hr hp hl2 hn
    obtain ⟨hlt, hd, _⟩ := dropc (d := z48) h
    have hc := hr c (List.mem_cons_self ..)
    have hcn := hc.near
    have hz := zig_near hcn hp
    have hl' := hl2
    rw [List.length_cons] at hl'
    have l0 := enc_len10 (n := (zig (c.f0 - p.f0)).toNat) (by omega)
    have l1 := enc_len10 (n := (zig (c.f1 - p.f1)).toNat) (by omega)
    have hpp := hp
    unfold near at hpp hcn
    have h1 := ih (j + 1) (out ++ enc (zig (c.f0 - p.f0)).toNat ++ enc (zig (c.f1 - p.f1)).toNat) c hd (fun x hx => hr x (List.mem_cons_of_mem _ hx)) hc.near (by rw [List.length_append, List.length_append]; omega) (by
      simpa only [deltas, VB.encs_cons, List.append_assoc, lastP] using hn)
    have b0 := rputInt_ev (n := c.f0 - p.f0) (by omega)
    have b1 := rputInt_ev (n := c.f1 - p.f1) (by omega)
    refine Ev.step (f := fun k => (lapidaryref01_PutInt.f k (c.f0 - p.f0)).bind fun t143 => (if out.length + t143.length < 140737488355328 then ((some (out ++ t143 : List Int)).bind fun y146 => ((lapidaryref01_PutInt.f k (c.f1 - p.f1)).bind fun t149 => (if y146.length + t149.length < 140737488355328 then (lapidaryref15_Encode.l1 k l (y146 ++ t149) c.f0 c.f1 (i : Int) ((j + 1 : Nat) : Int)) else (none)))) else (none))) (fun k => ?_) (Ev.bind b0 (Ev.congr (fun k => ?_) (Ev.bind (f := fun k t149 => (if (out ++ enc (zig (c.f0 - p.f0)).toNat).length + t149.length < 140737488355328 then (lapidaryref15_Encode.l1 k l ((out ++ enc (zig (c.f0 - p.f0)).toNat) ++ t149) c.f0 c.f1 (i : Int) ((j + 1 : Nat) : Int)) else (none))) b1 (Ev.congr (fun k => ?_) h1))))
    · simp only [lapidaryref15_Encode.l1]
      rw [if_pos (by omega), if_pos (by omega), rdL hi, if_pos (by omega), if_pos (by omega), rdT h, Mem.w64 (by omega) (by omega), Mem.w64 (x := c.f1 - p.f1) (by omega) (by omega), Mem.w64 (x := (j : Int) + 1) (by omega) (by omega)]
      rfl
    · rw [if_pos (by omega)]
      rfl
    · rw [if_pos (by rw [List.length_append]; omega)]

theorem renc_l0 (l : List (List S48)) (hl : l.length ≤ 1000000) : ∀ (cs : List (List S48)) (i : Nat) (out : List Int) (p : S48), l.drop i = cs → (∀ a ∈ cs, ∀ q ∈ a, rgt q) → near p → out.length + 10 * (cs.length + 2 * tot cs) ≤ 100000000 →
    Ev (fun k => lapidaryref15_Encode.l0 k l out p.f0 p.f1 (i : Int)) (out ++ VB.encs (arcNums p cs), 0) := by
  intro cs
  induction cs with
  | nil =>
    intro i out p h hr hp ho
    have := dropn h
    refine Ev.step (f := fun _ => some (out, 0)) (fun k => ?_) (by simpa only [arcNums, VB.encs_nil, List.append_nil] using Ev.now _)
    simp only [lapidaryref15_Encode.l0]
    rw [if_neg (by omega)]
  | cons c cs ih =>
    intro i out p h hr hp ho
    obtain ⟨hlt, hd, _⟩ := dropc (d := []) h
    have hc := hr c (List.mem_cons_self ..)
    rw [tot_cons, List.length_cons] at ho
    have hlc := encs_len10 (deltas_u64 hp hc)
    rw [deltas_len] at hlc
    have hle := enc_len10 (n := c.length) (by omega)
    have h1 := ih (i + 1) (out ++ enc c.length ++ VB.encs (deltas p c)) (lastP p c) hd (fun x hx => hr x (List.mem_cons_of_mem _ hx)) (lastP_near hp hc) (by rw [List.length_append, List.length_append]; omega)
    have h2 := renc_l1 l i _ c h hl (by omega) c 0 (out ++ enc c.length) p (List.drop_zero ..) hc hp (by rw [List.length_append]; omega) h1
    rw [show (out ++ VB.encs (arcNums p (c :: cs)), (0 : Int)) = (out ++ enc c.length ++ VB.encs (deltas p c) ++ VB.encs (arcNums (lastP p c) cs), 0) by simp only [arcNums, VB.encs_cons, VB.encs_append, Int.toNat_natCast, List.append_assoc]]
    refine Ev.step (f := fun k => (lapidaryref01_Put.f k (IntKind.u64.wrap ((c.length : Int)))).bind fun t135 => (if out.length + t135.length < 140737488355328 then (lapidaryref15_Encode.l1 k l (out ++ t135) p.f0 p.f1 (i : Int) 0) else (none))) (fun k => ?_) (Ev.bind (rnum_put (n := c.length) (by omega)) (Ev.congr (fun k => ?_) h2))
    · simp only [lapidaryref15_Encode.l0]
      rw [if_pos (by omega), if_pos (by omega), rdL h]
    · rw [if_pos (by omega)]
      rfl

theorem rencode_ev (l : List (List S48)) (hl : l.length ≤ 100000000000000000) (ht : tot l ≤ 100000000000000000) : Ev (fun k => lapidaryref15_Encode.f k l) (encR l) := by
  unfold encR
  by_cases hc : chkS l = 0
  · have h1 := chk0 hc
    have hle := enc_len10 (n := l.length) (by omega)
    have h2 := renc_l0 l (by omega) l 0 (enc l.length) z48 (List.drop_zero ..) (chk0_rgt hc) near_z (by omega)
    rw [if_pos hc, show (VB.encs (nums l), (0 : Int)) = (enc l.length ++ VB.encs (arcNums z48 l), 0) by simp only [nums, VB.encs_cons, Int.toNat_natCast]]
    refine Ev.congr (f := fun k => (lapidaryref15_Check.f k l).bind fun t218 => (if t218 = 0 then ((lapidaryref01_Put.f k (IntKind.u64.wrap ((l.length : Int)))).bind fun t219 => (lapidaryref15_Encode.l0 k l t219 0 0 0)) else (some (([] : List Int), t218)))) (fun k => ?_) (Ev.bind (rchk_ev l hl ht) (Ev.congr (fun k => ?_) (Ev.bind (f := fun k t219 => lapidaryref15_Encode.l0 k l t219 0 0 0) (rnum_put (n := l.length) (by omega)) h2)))
    · rfl
    · rw [if_pos hc]
  · rw [if_neg hc]
    refine Ev.congr (f := fun k => (lapidaryref15_Check.f k l).bind fun t218 => (if t218 = 0 then ((lapidaryref01_Put.f k (IntKind.u64.wrap ((l.length : Int)))).bind fun t219 => (lapidaryref15_Encode.l0 k l t219 0 0 0)) else (some (([] : List Int), t218)))) (fun k => ?_) (Ev.bind (rchk_ev l hl ht) (Ev.congr (fun k => ?_) (Ev.now _)))
    · rfl
    · rw [if_neg hc]
end Go.Proofs.Ytmfeokapjmpjfaa.ArcW
