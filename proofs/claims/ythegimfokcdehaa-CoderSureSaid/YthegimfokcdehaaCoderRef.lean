/- What the document's coder comes to, function by function (printed), in the words of the plain side. -/
import Derived.Test.YthegimfokcdehaaCoderRef0
import Derived.Test.YthegimfokcdehaaPCodx5d
import Derived.Test.YthegimfokcdehaaCoderMathAll
namespace Go.Proofs.Ythegimfokcdehaa.CR
open Go Go.RowKit Go.Proofs.Ythegimfokcdehaa.CM Go.Proofs.Ythegimfokcdehaa.PCod Go.Proofs.YthegimfokcdehaaW.PrintWords Go.Proofs.YthegimfokcdehaaW.PrintLast Go.Proofs.YthegimfokcdehaaW.PrintMore
open Go.Proofs.Ythegimfokcdehaa.MW (Ok cnt cntI Inv findL sum_nonneg)
set_option linter.unusedVariables false
set_option linter.unusedSimpArgs false
def tw (n : Nat) : Int := 2 ^ n
theorem tw_succ (n : Nat) : tw (n + 1) = tw n * 2 := by unfold tw; rw [Int.pow_succ]
theorem tw_pos (n : Nat) : 0 < tw n := by
  induction n with
  | zero => decide
  | succ n ih => rw [tw_succ]; omega
theorem tw_le : ∀ (a b : Nat), a ≤ b → tw a ≤ tw b := by
  intro a b h
  induction h with
  | refl => exact Int.le_refl _
  | step h ih => rw [tw_succ]; have := tw_pos a; omega
theorem two_l0 (n : Nat) (hn : n ≤ 16) : ∀ (d i : Nat), n - i = d → i ≤ n → Ev (fun k => lapidaryref06_two.l0 k (n : Int) (tw i) (i : Int)) (tw n) := by
  intro d
  induction d with
  | zero =>
    intro i h hi
    obtain rfl : i = n := by omega
    refine Ev.step (f := fun _ => some (tw i)) (fun k => ?_) (Ev.now _)
    simp only [lapidaryref06_two.l0]
    rw [if_neg (by omega)]
  | succ d ih =>
    intro i h hi
    have h0 := tw_pos i
    have h1 := tw_le i 16 (by omega)
    have h2 : tw 16 = 65536 := by decide
    refine Ev.step (fun k => ?_) (ih (i + 1) (by omega) (by omega))
    simp only [lapidaryref06_two.l0]
    rw [if_pos (by omega), w64 (x := tw i * 2) (by omega) (by omega), w64 (x := (i : Int) + 1) (by omega) (by omega), tw_succ]
    rfl
theorem two_ev {k : Int} (h : isPlain k) : Ev (fun j => lapidaryref06_two.f j (wrap64 (-k))) (CM.bits k) := by
  have h0 := h.1
  have h1 := h.2
  rw [w64 (x := -k) (by omega) (by omega), show -k = (((-k).toNat : Nat) : Int) by omega]
  exact two_l0 (-k).toNat (by omega) _ 0 rfl (by omega)
theorem rd_at (C : List (List Int)) {k : Int} (h0 : 0 ≤ k) : rd_L1 C k = C.getD k.toNat [] := rfl
theorem whole_ev {C : List (List Int)} (h : Mods C) (hC : C.length ≤ 1000) (N : List Int) (R k : Int) : Ev (fun j => lapidaryref06_whole.f j C N R k) (CM.whole C k) := by
  unfold lapidaryref06_whole.f
  by_cases hk : k < 0
  · simp only [if_pos hk]
    by_cases h16 : k ≥ -16
    · refine Ev.step (f := fun j => lapidaryref06_two.f j (wrap64 (-k))) (fun j => ?_) ?_
      · simp only [lapidaryref06_whole.j0, decide_eq_true h16, if_true]
        cases lapidaryref06_two.f j (wrap64 (-k)) <;> rfl
      · have : CM.whole C k = CM.bits k := if_pos ⟨hk, h16⟩
        rw [this]
        exact two_ev ⟨hk, h16⟩
    · refine Ev.step (f := fun j => some 0) (fun j => ?_) ?_
      · simp only [lapidaryref06_whole.j0, decide_eq_false h16, Bool.false_eq_true, if_false, if_pos hk]
      · have : CM.whole C k = 0 := by unfold CM.whole; rw [if_neg (fun h => h16 h.2), if_neg (by omega)]
        rw [this]
        exact Ev.now _
  · simp only [if_neg hk]
    have hnp : ¬ isPlain k := fun h => hk h.1
    by_cases hl : k ≥ (C.length : Int)
    · refine Ev.step (f := fun j => some 0) (fun j => ?_) ?_
      · simp only [lapidaryref06_whole.j0, Bool.false_eq_true, if_false, if_neg hk, if_pos hl]
      · have : CM.whole C k = 0 := by unfold CM.whole; rw [if_neg hnp, if_neg (by omega)]
        rw [this]
        exact Ev.now _
    · obtain ⟨i, rfl⟩ := Int.eq_ofNat_of_zero_le (show 0 ≤ k by omega)
      have hm := h.at_ (k := i) (by omega)
      refine Ev.step (f := fun j => lapidaryref05_Sum.f j (C.getD i []) ((C.getD i []).length : Int)) (fun j => ?_) ?_
      · simp only [lapidaryref06_whole.j0, Bool.false_eq_true, if_false, if_neg hk, if_neg hl, if_pos (show (0 : Int) ≤ (i : Int) by omega), if_pos (show (i : Int) < (C.length : Int) by omega)]
        rw [rd_at C (by omega), Int.toNat_natCast]
        cases lapidaryref05_Sum.f j (C.getD i []) ((C.getD i []).length : Int) <;> rfl
      · have : CM.whole C (i : Int) = (C.getD i []).sum := by unfold CM.whole; rw [if_neg hnp, if_pos ⟨by omega, by omega⟩, Int.toNat_natCast]
        rw [this]
        have := rsum (C.getD i []) hm.1.inv (C.getD i []).length (Nat.le_refl _)
        rwa [List.take_length] at this
def shareR (C : List (List Int)) (k s : Int) : Int × Int := (CM.share C k s).getD (0, 0)
theorem share_ev {C : List (List Int)} (h : Mods C) (hC : C.length ≤ 1000) (N : List Int) (R k s : Int) (hs : -9223372036854775808 ≤ s ∧ s < 9223372036854775808) : Ev (fun j => lapidaryref06_share.f j C N R k s) (shareR C k s) := by
  unfold lapidaryref06_share.f
  refine Ev.bind (whole_ev h hC N R k) ?_
  by_cases hk : k < 0
  · by_cases h16 : k ≥ -16
    · have hp : isPlain k := ⟨hk, h16⟩
      have hw : CM.whole C k = CM.bits k := if_pos hp
      have hb := bits_bound hp.1 hp.2
      simp only [if_neg (show ¬ CM.whole C k = 0 by omega), if_pos hk]
      have hsh : CM.share C k s = if 0 ≤ s ∧ s < CM.bits k then some (s, 1) else none := by unfold CM.share; rw [if_pos hp]
      by_cases h0 : s < 0
      · simp only [if_pos h0]
        refine Ev.step (f := fun j => some (0, 0)) (fun j => ?_) ?_
        · simp only [lapidaryref06_share.j0, if_true]
        · unfold shareR; rw [hsh, if_neg (by omega)]; exact Ev.now _
      · simp only [if_neg h0]
        refine Ev.bind (two_ev hp) ?_
        refine Ev.step (f := fun j => some (shareR C k s)) (fun j => ?_) (Ev.now _)
        simp only [lapidaryref06_share.j0]
        unfold shareR
        rw [hsh]
        by_cases h1 : s ≥ CM.bits k
        · simp only [if_neg (show ¬ (0 ≤ s ∧ s < CM.bits k) by omega), decide_eq_true h1, if_true]; rfl
        · simp only [if_pos (show 0 ≤ s ∧ s < CM.bits k by omega), decide_eq_false h1, Bool.false_eq_true, if_false]; rfl
    · have hw : CM.whole C k = 0 := by unfold CM.whole; rw [if_neg (fun h => h16 h.2), if_neg (by omega)]
      simp only [if_pos hw]
      have hsh : CM.share C k s = none := by unfold CM.share; rw [if_neg (fun h => h16 h.2), if_neg (by omega)]
      unfold shareR; rw [hsh]; exact Ev.now _
  · have hnp : ¬ isPlain k := fun h => hk h.1
    by_cases hl : k < (C.length : Int)
    · obtain ⟨i, rfl⟩ := Int.eq_ofNat_of_zero_le (show 0 ≤ k by omega)
      have hm := h.at_ (k := i) (by omega)
      have hw : CM.whole C (i : Int) = (C.getD i []).sum := by unfold CM.whole; rw [if_neg hnp, if_pos ⟨by omega, hl⟩, Int.toNat_natCast]
      have hpos := sum_ge_len (C.getD i []) hm.1.1
      simp only [if_neg (show ¬ CM.whole C (i : Int) = 0 by rw [hw]; have := hm.2; omega), if_neg hk, if_pos (show (0 : Int) ≤ (i : Int) by omega), if_pos hl]
      rw [rd_at C (by omega), Int.toNat_natCast]
      refine Ev.bind (rshare hm.1 s) ?_
      have hsh : CM.share C (i : Int) s = if 0 ≤ s ∧ s < (C.getD i []).length then some (((C.getD i []).take s.toNat).sum, (C.getD i []).getD s.toNat 0) else none := by
        unfold CM.share; rw [if_neg hnp, if_pos (by omega), Int.toNat_natCast]
      unfold shareR shareS
      rw [hsh]
      by_cases h0 : s < 0
      · simp only [if_pos h0, if_neg (show ¬ (0 ≤ s ∧ s < ((C.getD i []).length : Int)) by omega)]; exact Ev.now _
      · by_cases h1 : s ≥ ((C.getD i []).length : Int)
        · simp only [if_neg h0, if_pos h1, if_neg (show ¬ (0 ≤ s ∧ s < ((C.getD i []).length : Int)) by omega)]; exact Ev.now _
        · simp only [if_neg h0, if_neg h1, if_pos (show 0 ≤ s ∧ s < ((C.getD i []).length : Int) by omega)]; exact Ev.now _
    · have hw : CM.whole C k = 0 := by unfold CM.whole; rw [if_neg hnp, if_neg (by omega)]
      have hsh : CM.share C k s = none := by unfold CM.share; rw [if_neg hnp, if_neg (by omega)]
      simp only [if_pos hw]
      unfold shareR; rw [hsh]; exact Ev.now _
theorem add_l0 : ∀ (n : Nat) (V x : Int) (sf : List Int), n ≤ 100000 → 0 ≤ x → x ≤ 4611686018427387904 → Ev (fun k => lapidaryref06_add.l0 k x (digs n V ++ sf) ((n : Int) - 1)) (digs n (V + x) ++ sf) := by
  intro n
  induction n with
  | zero =>
    intro V x sf hn h0 h1
    refine Ev.step (f := fun _ => some sf) (fun k => ?_) (Ev.now _)
    simp only [lapidaryref06_add.l0]
    rw [if_neg (by omega)]
    rfl
  | succ n ih =>
    intro V x sf hn h0 h1
    have hm := Int.emod_nonneg V (show (256 : Int) ≠ 0 by decide)
    have hm1 := Int.emod_lt_of_pos V (show (0 : Int) < 256 by decide)
    have hl := digs_length n (V / 256)
    have e : digs (n + 1) V = digs n (V / 256) ++ [V % 256] := rfl
    have e2 : digs (n + 1) (V + x) = digs n ((V + x) / 256) ++ [(V + x) % 256] := rfl
    have hrd : rd (digs (n + 1) V ++ sf) (((n + 1 : Nat) : Int) - 1) = V % 256 := by
      unfold rd
      rw [show (((n + 1 : Nat) : Int) - 1).toNat = n by omega, e, List.append_assoc, List.getD_eq_getElem?_getD, List.getElem?_append_right (by omega), hl, Nat.sub_self]
      rfl
    have hset : (digs (n + 1) V ++ sf).set (((n + 1 : Nat) : Int) - 1).toNat ((V + x) % 256) = digs n (V / 256) ++ ((V + x) % 256 :: sf) := by
      rw [show (((n + 1 : Nat) : Int) - 1).toNat = n by omega, e, List.append_assoc, List.set_append_right _ _ (by omega), hl, Nat.sub_self]
      rfl
    have hih := ih (V / 256) ((V % 256 + x) / 256) ((V + x) % 256 :: sf) (by omega) (by omega) (by omega)
    rw [show V / 256 + (V % 256 + x) / 256 = (V + x) / 256 by omega] at hih
    rw [e2, List.append_assoc]
    refine Ev.step (fun k => ?_) hih
    simp only [lapidaryref06_add.l0]
    rw [if_pos (by omega), if_pos (by omega), if_pos (by rw [List.length_append, digs_length]; omega), hrd, w64 (x := x + V % 256) (by omega) (by omega), Int.tmod_eq_emod_of_nonneg (by omega), Int.tdiv_eq_ediv_of_nonneg (by omega), w64 (x := (x + V % 256) / 256) (by omega) (by omega), show (x + V % 256) % 256 = (V + x) % 256 by omega, hset, w64 (x := ((n + 1 : Nat) : Int) - 1 - 1) (by omega) (by omega), show ((n + 1 : Nat) : Int) - 1 - 1 = (n : Int) - 1 by omega, show (x + V % 256) / 256 = (V % 256 + x) / 256 by rw [Int.add_comm]]
theorem add_ev (L : Nat) (V x : Int) (hL : L ≤ 100000) (h0 : 0 ≤ x) (h1 : x ≤ 4611686018427387904) : Ev (fun k => lapidaryref06_add.f k (digs L V) x) (digs L (V + x)) := by
  unfold lapidaryref06_add.f
  have hl := digs_length L V
  simp only [if_pos (show ([] : List Int).length + (digs L V).length < 17592186044416 by rw [hl]; simp; omega), Option.bind_some, List.nil_append]
  have := add_l0 L V x [] hL h0 h1
  rw [List.append_nil, List.append_nil] at this
  rw [hl, w64 (by omega) (by omega)]
  exact this
theorem count_ev {C : List (List Int)} (h : Mods C) {i : Nat} {s a n : Int} (hs : CM.share C (i : Int) s = some (a, n)) : Ev (fun k => lapidaryref05_Count.f k (C.getD i []) s) (cntI (C.getD i []) s) := by
  unfold CM.share at hs
  rw [if_neg (fun h => by have := h.1; omega)] at hs
  by_cases hi : i < C.length
  · have hm := h.at_ hi
    rw [if_pos (by omega), Int.toNat_natCast] at hs
    by_cases hr : 0 ≤ s ∧ s < (C.getD i []).length
    · obtain ⟨m, rfl⟩ := Int.eq_ofNat_of_zero_le hr.1
      exact rcount hm.1 (by omega)
    · rw [if_neg hr] at hs; cases hs
  · rw [if_neg (by omega)] at hs; cases hs
theorem digits_l0 (N : List Int) (hd : Dig N) (hN : N.length ≤ 100000) : ∀ (d i : Nat), N.length - i = d → i ≤ N.length → Ev (fun k => lapidaryref06_digits.l0 k N (N.take i) (i : Int)) N := by
  intro d
  induction d with
  | zero =>
    intro i h hi
    obtain rfl : i = N.length := by omega
    refine Ev.step (f := fun _ => some N) (fun k => ?_) (Ev.now _)
    simp only [lapidaryref06_digits.l0]
    rw [if_neg (by omega), List.take_length]
  | succ d ih =>
    intro i h hi
    have hrd : rd N (i : Int) = N[i]'(by omega) := by unfold rd; rw [Int.toNat_natCast, List.getD_eq_getElem?_getD, List.getElem?_eq_getElem (by omega)]; rfl
    have hx := hd (N[i]'(by omega)) (List.getElem_mem _)
    refine Ev.step (fun k => ?_) (ih (i + 1) (by omega) (by omega))
    simp only [lapidaryref06_digits.l0]
    rw [if_pos (by omega), if_pos (by omega), if_pos (by rw [List.length_take]; omega), hrd, w64 (x := (i : Int) + 1) (by omega) (by omega), Int.emod_eq_of_lt hx.1 hx.2, List.take_succ_eq_append_getElem (by omega)]
    rfl
theorem digits_ev {N : List Int} (hd : Dig N) (hN : N.length ≤ 100000) : Ev (fun k => lapidaryref06_digits.f k N) N := digits_l0 N hd hN _ 0 rfl (by omega)
def freshR (l : List Int) : List (List Int) := l.map fun n => List.replicate n.toNat 1
theorem begun_l0 (l : List Int) (hl : l.length ≤ 1000) : ∀ (d i : Nat), l.length - i = d → i ≤ l.length → (∀ x ∈ l.take i, 1 ≤ x ∧ x ≤ 256) → ∃ C b, Ev (fun k => lapidaryref06_Begun.l0 k l (i : Int) (freshR (l.take i)) [0, 0, 0, 0, 0] 4294967295) (C, [0, 0, 0, 0, 0], 4294967295, b) ∧ (b = true → C = freshR l ∧ l.length ≤ 16 ∧ ∀ x ∈ l, 1 ≤ x ∧ x ≤ 256) ∧ (b = false → ¬ (l.length ≤ 16 ∧ ∀ x ∈ l, 1 ≤ x ∧ x ≤ 256)) := by
  intro d
  induction d with
  | zero =>
    intro i h hi hx
    obtain rfl : i = l.length := by omega
    rw [List.take_length] at hx ⊢
    refine ⟨freshR l, decide ((l.length : Int) ≤ 16), Ev.step (f := fun _ => some (freshR l, [0, 0, 0, 0, 0], 4294967295, decide ((l.length : Int) ≤ 16))) (fun k => ?_) (Ev.now _), fun h => ⟨rfl, ?_, hx⟩, fun h h' => ?_⟩
    · simp only [lapidaryref06_Begun.l0]
      rw [if_neg (by omega)]
    · have := of_decide_eq_true h; omega
    · have := of_decide_eq_false h; omega
  | succ d ih =>
    intro i h hi hx
    have hrd : rd l (i : Int) = l[i]'(by omega) := by unfold rd; rw [Int.toNat_natCast, List.getD_eq_getElem?_getD, List.getElem?_eq_getElem (by omega)]; rfl
    have hmem : l[i]'(by omega) ∈ l := List.getElem_mem _
    by_cases hb : 1 ≤ l[i]'(by omega) ∧ l[i]'(by omega) ≤ 256
    · obtain ⟨C, b, he, h1, h2⟩ := ih (i + 1) (by omega) (by omega) (by
        intro x hxm
        rw [List.take_succ_eq_append_getElem (by omega)] at hxm
        rcases List.mem_append.1 hxm with hxm | hxm
        · exact hx x hxm
        · rw [List.mem_singleton] at hxm; subst hxm; exact hb)
      refine ⟨C, b, ?_, h1, h2⟩
      have hn := rnew (l[i]'(by omega)).toNat (by omega)
      rw [show (((l[i]'(by omega)).toNat : Nat) : Int) = l[i]'(by omega) by omega] at hn
      refine Ev.step (f := fun k => (lapidaryref05_New.f k (l[i]'(by omega))).bind fun t182 => if (freshR (l.take i)).length < 5864062014805 then lapidaryref06_Begun.l0 k l (wrap64 ((i : Int) + 1)) (freshR (l.take i) ++ [t182]) [0, 0, 0, 0, 0] 4294967295 else none) (fun k => ?_) (Ev.bind hn ?_)
      · simp only [lapidaryref06_Begun.l0]
        rw [if_pos (by omega), if_pos (by omega), hrd, if_neg (by omega), if_neg (by omega)]
      · simp only [if_pos (show (freshR (l.take i)).length < 5864062014805 by unfold freshR; rw [List.length_map, List.length_take]; omega)]
        rw [w64 (x := (i : Int) + 1) (by omega) (by omega), show freshR (l.take i) ++ [List.replicate (l[i]'(by omega)).toNat 1] = freshR (l.take (i + 1)) by rw [List.take_succ_eq_append_getElem (by omega)]; unfold freshR; rw [List.map_append]; rfl]
        exact he
    · refine ⟨freshR (l.take i), false, Ev.step (f := fun _ => some (freshR (l.take i), [0, 0, 0, 0, 0], 4294967295, false)) (fun k => ?_) (Ev.now _), (fun h => absurd h (by decide)), fun _ h' => hb (h'.2 _ hmem)⟩
      simp only [lapidaryref06_Begun.l0]
      rw [if_pos (by omega), if_pos (by omega), hrd]
      by_cases h0 : l[i]'(by omega) < 1
      · rw [if_pos h0]
      · rw [if_neg h0, if_pos (by omega)]
theorem begun_ev (l : List Int) (hl : l.length ≤ 1000) : ∃ C b, Ev (fun k => lapidaryref06_Begun.f k l) (C, [0, 0, 0, 0, 0], 4294967295, b) ∧ (b = true → C = freshR l ∧ l.length ≤ 16 ∧ ∀ x ∈ l, 1 ≤ x ∧ x ≤ 256) ∧ (b = false → ¬ (l.length ≤ 16 ∧ ∀ x ∈ l, 1 ≤ x ∧ x ≤ 256)) := begun_l0 l hl _ 0 rfl (by omega) (fun x hx => by simp at hx)
end Go.Proofs.Ythegimfokcdehaa.CR
