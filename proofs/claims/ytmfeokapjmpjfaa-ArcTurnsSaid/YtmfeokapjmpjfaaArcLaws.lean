/- What the arcs' laws lean on. -/
import Derived.Test.YtmfeokapjmpjfaaArcRef3
namespace Go.Proofs.Ytmfeokapjmpjfaa.ArcW
open Go Go.RowKit Go.Proofs.Ytmfeokapjmpjfaa.Mem Go.Proofs.Ytmfeokapjmpjfaa.VM Go.Proofs.Ytmfeokapjmpjfaa.VB Go.Proofs.Ytmfeokapjmpjfaa.PArc Go.Proofs.YtmfeokapjmpjfaaW.PrintWords Go.Proofs.YtmfeokapjmpjfaaW.PrintLast Go.Proofs.YtmfeokapjmpjfaaW.PrintMore
set_option linter.unusedVariables false
set_option linter.unusedSimpArgs false

theorem known_ev : Ev (fun k => lapidarylaw15_known.f k) true := Ev.of (fun k => lapidarylaw15_known.mono k) (k := 60) (by decide +kernel)
theorem known_then : Ev (fun k => (lapidarylaw15_known.f k).bind fun t => (some t)) true := Ev.bind known_ev (Ev.now true)

/-- Lists of lists that a machine may hold. -/
def okL (l : List (List S48)) : Prop := l.length ≤ 10000000000000 ∧ ∀ a ∈ l, a.length ≤ 10000000000000

theorem chk_big {l : List (List S48)} (hl : l.length ≤ 10000000000000) (h : l.length > 2000) : Ev (fun k => arc_Check.f k l) 3 := by
  have h1 : ∀ (d i : Nat) (n : Int), l.length - i = d → Ev (fun k => arc_Check.l0 k l n l (l.length : Int) (i : Int)) 3 := by
    intro d
    induction d with
    | zero =>
      intro i n hd
      refine Ev.step (f := fun k => arc_Check.j1 k l true) (fun k => ?_) (Ev.step (f := fun _ => some 3) (fun k => ?_) (Ev.now _))
      · simp only [arc_Check.l0]
        rw [if_neg (by omega), if_pos (by omega)]
      · simp only [arc_Check.j1, if_true]
    | succ d ih =>
      intro i n hd
      have E1 := Lib.hid (show wrap64 ((i : Int) + 1) = ((i + 1 : Nat) : Int) from (Mem.w64 (by omega) (by omega)).trans (by omega))
      refine Ev.step (fun k => ?_) (ih (i + 1) (wrap64 (n + ((rd_L2 l i).length : Int))) (by omega))
      simp only [arc_Check.l0]
      rw [if_pos (by omega), if_pos (by omega), if_pos (by omega), E1.out]
  exact h1 l.length 0 0 rfl
theorem rchk_big {l : List (List S48)} (hl : l.length ≤ 10000000000000) (h : l.length > 2000) : Ev (fun k => lapidaryref15_Check.f k l) 3 := by
  have h1 : ∀ (d i : Nat) (n : Int), l.length - i = d → Ev (fun k => lapidaryref15_Check.l0 k l n (i : Int)) 3 := by
    intro d
    induction d with
    | zero =>
      intro i n hd
      refine Ev.step (f := fun k => lapidaryref15_Check.j1 k l true) (fun k => ?_) (Ev.step (f := fun _ => some 3) (fun k => ?_) (Ev.now _))
      · simp only [lapidaryref15_Check.l0]
        rw [if_neg (by omega), if_pos (by omega)]
      · simp only [lapidaryref15_Check.j1, if_true]
    | succ d ih =>
      intro i n hd
      have E1 := Lib.hid (show wrap64 ((i : Int) + 1) = ((i + 1 : Nat) : Int) from (Mem.w64 (by omega) (by omega)).trans (by omega))
      refine Ev.step (fun k => ?_) (ih (i + 1) (wrap64 (n + ((rd_L2 l i).length : Int))) (by omega))
      simp only [lapidaryref15_Check.l0]
      rw [if_pos (by omega), if_pos (by omega), E1.out]
  exact h1 l.length 0 0 rfl
theorem okL_tot {l : List (List S48)} (h : okL l) (h2 : l.length ≤ 2000) : tot l ≤ 100000000000000000 := by
  have := tot_le h.2
  have := Nat.mul_le_mul h2 (Nat.le_refl 10000000000000)
  omega
theorem chkS_big {l : List (List S48)} (h : l.length > 2000) : chkS l = 3 := by unfold chkS; rw [if_pos (.inl h)]
theorem chk_any {l : List (List S48)} (h : okL l) : Ev (fun k => arc_Check.f k l) (chkS l) := by
  by_cases h2 : l.length > 2000
  · rw [chkS_big h2]; exact chk_big h.1 h2
  · exact chk_ev l (by omega) (okL_tot h (by omega))
theorem rchk_any {l : List (List S48)} (h : okL l) : Ev (fun k => lapidaryref15_Check.f k l) (chkS l) := by
  by_cases h2 : l.length > 2000
  · rw [chkS_big h2]; exact rchk_big h.1 h2
  · exact rchk_ev l (by omega) (okL_tot h (by omega))
theorem encode_any {l : List (List S48)} (h : okL l) : Ev (fun k => arc_Encode.f k l) (encR l) := by
  by_cases h2 : l.length > 2000
  · have h3 := chkS_big h2
    have h4 := chk_big h.1 h2
    unfold encR
    rw [if_neg (by omega), h3]
    exact Ev.bind (f := fun k t123 => (if t123 = 0 then ((vint_Put.f k (([IntKind.u64.wrap ((l.length : Int))] : List Int))).bind fun t127 => (arc_Encode.l0 k t127 l (l.length : Int) 0 0 0 0)) else (some (([] : List Int), t123)))) h4 (Ev.now _)
  · exact encode_ev l (by omega) (okL_tot h (by omega))
theorem rencode_any {l : List (List S48)} (h : okL l) : Ev (fun k => lapidaryref15_Encode.f k l) (encR l) := by
  by_cases h2 : l.length > 2000
  · have h3 := chkS_big h2
    have h4 := rchk_big h.1 h2
    unfold encR
    rw [if_neg (by omega), h3]
    exact Ev.bind (f := fun k t218 => (if t218 = 0 then ((lapidaryref01_Put.f k (IntKind.u64.wrap ((l.length : Int)))).bind fun t219 => (lapidaryref15_Encode.l0 k l t219 0 0 0)) else (some (([] : List Int), t218)))) h4 (Ev.now _)
  · exact rencode_ev l (by omega) (okL_tot h (by omega))

theorem long_any {l : List (List S48)} (hl : l.length ≤ 10000000000000) : ∃ b, Ev (fun k => lapidarylaw15_long.f k l) b := by
  have h1 : ∀ (d i : Nat) (n : Int), l.length - i = d → ∃ b, Ev (fun k => lapidarylaw15_long.l0 k l n (i : Int)) b := by
    intro d
    induction d with
    | zero =>
      intro i n hd
      refine ⟨decide (n > 200), Ev.step (f := fun _ => some (decide (n > 200))) (fun k => ?_) (Ev.now _)⟩
      simp only [lapidarylaw15_long.l0]
      rw [if_neg (by omega)]
    | succ d ih =>
      intro i n hd
      have E1 := Lib.hid (show wrap64 ((i : Int) + 1) = ((i + 1 : Nat) : Int) from (Mem.w64 (by omega) (by omega)).trans (by omega))
      obtain ⟨b, hb⟩ := ih (i + 1) (wrap64 ((wrap64 (n + 1)) + ((rd_L2 l i).length : Int))) (by omega)
      refine ⟨b, Ev.step (fun k => ?_) hb⟩
      simp only [lapidarylaw15_long.l0]
      rw [if_pos (by omega), if_pos (by omega), E1.out]
  exact h1 l.length 0 0 rfl
theorem long_ev {l : List (List S48)} (hl : l.length ≤ 2000) (ht : tot l ≤ 20000) : Ev (fun k => lapidarylaw15_long.f k l) (decide (l.length + tot l > 200)) := by
  have h1 : ∀ (cs : List (List S48)) (i n : Nat), l.drop i = cs → n + cs.length + tot cs = l.length + tot l → Ev (fun k => lapidarylaw15_long.l0 k l (n : Int) (i : Int)) (decide (l.length + tot l > 200)) := by
    intro cs
    induction cs with
    | nil =>
      intro i n h hn
      have := dropn h
      simp only [tot, List.map_nil, List.sum_nil, List.length_nil] at hn
      refine Ev.step (f := fun _ => some (decide (l.length + tot l > 200))) (fun k => ?_) (Ev.now _)
      simp only [lapidarylaw15_long.l0]
      rw [if_neg (by omega)]
      congr 1
      apply decide_eq_decide.2
      simp only [tot]
      omega
    | cons c cs ih =>
      intro i n h hn
      obtain ⟨hlt, hd, _⟩ := dropc (d := []) h
      rw [tot_cons, List.length_cons] at hn
      refine Ev.step (fun k => ?_) (ih (i + 1) (n + 1 + c.length) hd (by omega))
      simp only [lapidarylaw15_long.l0]
      rw [if_pos (by omega), if_pos (by omega), rdL h, Mem.w64 (x := (n : Int) + 1) (by omega) (by omega), Mem.w64 (by omega) (by omega), Mem.w64 (by omega) (by omega)]
      rfl
  exact h1 l 0 0 (List.drop_zero ..) (by omega)

theorem eqs_self (p : S48) : (!(p.f0 == p.f0) || (!(p.f1 == p.f1) || !(p.f2 == p.f2))) = false := by simp
theorem same_l1 (l : List (List S48)) (hl : l.length ≤ 10000000000000) (i : Nat) (a : List S48) {ls : List (List S48)} (hi : l.drop i = a :: ls) (ha : a.length ≤ 10000000000000) (hn : Ev (fun k => lapidaryref15_Same.l0 k l l ((i + 1 : Nat) : Int)) true) : ∀ (d j : Nat), a.length - j = d → Ev (fun k => lapidaryref15_Same.l1 k l l (i : Int) (j : Int)) true := by
  obtain ⟨hil, _, _⟩ := dropc (d := []) hi
  intro d
  induction d with
  | zero =>
    intro j hd
    refine Ev.step (fun k => ?_) hn
    simp only [lapidaryref15_Same.l1]
    rw [if_pos (by omega), if_pos (by omega), rdL hi, if_neg (by omega), Mem.w64 (by omega) (by omega)]
    rfl
  | succ d ih =>
    intro j hd
    refine Ev.step (fun k => ?_) (ih (j + 1) (by omega))
    simp only [lapidaryref15_Same.l1]
    rw [if_pos (by omega), if_pos (by omega), rdL hi, if_pos (by omega), if_pos (by omega), if_pos (by omega), if_pos (by omega), if_neg (by rw [eqs_self]; decide), Mem.w64 (by omega) (by omega)]
    rfl
theorem same_refl {l : List (List S48)} (h : okL l) : Ev (fun k => lapidaryref15_Same.f k l l) true := by
  have hl := h.1
  have h1 : ∀ (cs : List (List S48)) (i : Nat), l.drop i = cs → Ev (fun k => lapidaryref15_Same.l0 k l l (i : Int)) true := by
    intro cs
    induction cs with
    | nil =>
      intro i hd
      have := dropn hd
      refine Ev.step (f := fun _ => some true) (fun k => ?_) (Ev.now _)
      simp only [lapidaryref15_Same.l0]
      rw [if_neg (by omega)]
    | cons c cs ih =>
      intro i hd
      obtain ⟨hlt, hd1, _⟩ := dropc (d := []) hd
      refine Ev.step (fun k => ?_) (same_l1 l h.1 i c hd (h.2 c (List.mem_of_mem_drop (by rw [hd]; exact List.mem_cons_self ..))) (ih (i + 1) hd1) c.length 0 rfl)
      simp only [lapidaryref15_Same.l0, if_true]
      rw [if_pos (by omega), if_pos (by omega), if_pos (by omega)]
      rfl
  refine Ev.congr (f := fun k => lapidaryref15_Same.l0 k l l 0) (fun k => ?_) (h1 l 0 (List.drop_zero ..))
  unfold lapidaryref15_Same.f
  rw [if_pos rfl]

theorem dec_some {b : List Int} (hb : ∀ c ∈ b, 0 ≤ c ∧ c < 256) (hl : b.length ≤ 100000) : arc_Decode.f b = some (decR b) := by
  unfold arc_Decode.f
  rw [if_pos ⟨hl, hb⟩]
theorem okL_of {l : List (List S48)} (h : chkS l = 0) : okL l := by
  have h1 := chk0 h
  exact ⟨by omega, fun a ha => by have := tot_mem ha; omega⟩
theorem okL_dec {b : List Int} (hb : ∀ c ∈ b, 0 ≤ c ∧ c < 256) : okL (decR b).1 := by
  rcases decR_cases hb with ⟨l, hc, _, h⟩ | ⟨_, h⟩
  · rw [h]; exact okL_of hc
  · rw [h]; exact ⟨by simp, fun _ ha => nomatch ha⟩

end Go.Proofs.Ytmfeokapjmpjfaa.ArcW
