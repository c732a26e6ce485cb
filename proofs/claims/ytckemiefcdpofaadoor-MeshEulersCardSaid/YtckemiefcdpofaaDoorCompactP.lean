import Derived.Test.YtckemiefcdpofaaDoorRowE
import Derived.Lib.SliceRun
namespace Go.Proofs.YtckemiefcdpofaaDoor.ED
open Go Go.RowKit Go.Lib Go.Sort Go.Proofs.YtckemiefcdpofaaDoor.OR Go.Proofs.YtckemiefcdpofaaDoor.Mem Go.Proofs.YtckemiefcdpofaaDoor.PMsr Go.Proofs.YtckemiefcdpofaaDoorW.PrintWords Go.Proofs.YtckemiefcdpofaaDoorW.PrintLast Go.Proofs.YtckemiefcdpofaaDoorW.PrintMore
set_option linter.unusedVariables false
set_option linter.unnecessarySimpa false
set_option linter.unusedSimpArgs false
set_option maxRecDepth 100000
theorem run_clear2 {P : Program} (w : World) (t e ty : TypeId) (ht : P.underlying t = some (.slice e)) (hv : ∀ w, (zeroValue e).run P w = .ok (.agg #[.int .i64 0, .int .i64 0]) w) (b o n c : Nat) (hn : 0 < n)
    (hc : ∀ j, j < n * 2 → (w.cell? ⟨b, o + j, none⟩).isSome = true) (hf : ∀ j, j < n * 2 → w.frozen? ⟨b, o + j, none⟩ = false) :
    (Builtin.clear_ #[t] ty #[.slice (some ⟨b, o, none⟩) n c]).run P w = .ok (.tuple #[]) (w.setCells b o (List.replicate (n * 2) (.int .i64 0))) := by
  have hzc : (Builtin.zeroCells (Value.agg #[.int .i64 0, .int .i64 0]).cells n).toList = List.replicate (n * 2) (.int .i64 0) := by
    apply List.ext_getElem
    · simp [Builtin.zeroCells, Value.cells]
    · intro i h1 h2
      have hm : i % 2 = 0 ∨ i % 2 = 1 := by omega
      rcases hm with hm | hm <;> simp [Builtin.zeroCells, Value.cells, hm]
  have hst := run_storeCells_cells (P := P) b o (List.replicate (n * 2) (.int .i64 0)) 0 w (by simpa using hc) (by simpa using hf) (by intro v hv'; rw [List.eq_of_mem_replicate hv']; rfl)
  simp only [Nat.add_zero] at hst
  obtain ⟨m, rfl⟩ : ∃ m, n = m + 1 := ⟨n - 1, by omega⟩
  simp [Builtin.clear_, run_underlying ht, hv, hzc, hst]
theorem rowE_blk {w : World} {g cap : Nat} {l : List (Int × Int)} (h : RowE w g l cap) : ∃ cur, Blk w g 52 cur ∧ cur.size = cap * 2 := by
  obtain ⟨cur, hc, h3, _⟩ := h
  exact ⟨cur, hc, h3⟩
theorem rowE_cell {w : World} {g cap : Nat} {l : List (Int × Int)} (h : RowE w g l cap) (j : Nat) (hj : j < l.length) : w.cell? ⟨g, j * 2, none⟩ = some (.int .i64 (l.getD j (0, 0)).1) ∧ w.cell? ⟨g, j * 2 + 1, none⟩ = some (.int .i64 (l.getD j (0, 0)).2) ∧ (∀ i, w.frozen? ⟨g, i, none⟩ = false) := by
  obtain ⟨cur, hc, h3, h1, h2, h4⟩ := h
  have hB : Blk w g 52 cur := hc
  have hg := flat_get l j hj
  have hcur : ∀ i, i < l.length * 2 → cur[i]? = (flat l)[i]? := fun i hi => by rw [← h4, List.getElem?_take, if_pos hi, Array.getElem?_toList]
  refine ⟨?_, ?_, fun i => hB.frozen i⟩
  · rw [hB.cell, hcur _ (by omega)]; exact hg.1
  · rw [hB.cell, hcur _ (by omega)]; exact hg.2
theorem flat_set (l : List (Int × Int)) (k : Nat) (x : Int × Int) (hk : k < l.length) : ((flat l).set (k * 2) (.int .i64 x.1)).set (k * 2 + 1) (.int .i64 x.2) = flat (l.set k x) := by
  induction l generalizing k with
  | nil => simp at hk
  | cons y l ih =>
    cases k with
    | zero => rfl
    | succ k =>
      rw [flat_cons, List.set_cons_succ, flat_cons, show (k + 1) * 2 = k * 2 + 1 + 1 by omega, show k * 2 + 1 + 1 + 1 = (k * 2 + 1) + 1 + 1 by omega]
      simp only [List.set_cons_succ]
      rw [ih k (by simpa using hk)]
theorem rowE_set {w : World} {g cap : Nat} {l : List (Int × Int)} (h : RowE w g l cap) (k : Nat) (hk : k < l.length) (x : Int × Int) : RowE ((w.setCell ⟨g, k * 2, none⟩ (.int .i64 x.1)).setCell ⟨g, k * 2 + 1, none⟩ (.int .i64 x.2)) g (l.set k x) cap := by
  obtain ⟨cur, hc, h3, h1, h2, h4⟩ := h
  have hB : Blk w g 52 cur := hc
  have hB2 := (hB.set_ (k * 2) (.int .i64 x.1)).set_ (k * 2 + 1) (.int .i64 x.2)
  refine ⟨_, hB2, by simp [h3], by simpa using h1, h2, ?_⟩
  rw [List.length_set, ← flat_set l k x hk, ← h4]
  simp only [Array.toList_setIfInBounds, List.take_set]
theorem rowE_far {w : World} {g cap o : Nat} {l : List (Int × Int)} (h : RowE w g l cap) (ho : l.length * 2 ≤ o) (v : Value) : RowE (w.setCell ⟨g, o, none⟩ v) g l cap := by
  obtain ⟨cur, hc, h3, h1, h2, h4⟩ := h
  have hB : Blk w g 52 cur := hc
  refine ⟨_, hB.set_ o v, by simp [h3], h1, h2, ?_⟩
  rw [Array.toList_setIfInBounds, List.take_set_of_le ho, h4]
theorem rowE_cut {w : World} {g cap : Nat} {l : List (Int × Int)} (h : RowE w g l cap) (k : Nat) (hk : k ≤ l.length) : RowE w g (l.take k) cap := by
  obtain ⟨cur, hc, h3, h1, h2, h4⟩ := h
  refine ⟨cur, hc, h3, by rw [List.length_take]; omega, h2, ?_⟩
  have hf : ∀ (l : List (Int × Int)) (k : Nat), k ≤ l.length → flat (l.take k) = (flat l).take (k * 2) := by
    intro l
    induction l with
    | nil => intro k hk; simp at hk; subst hk; rfl
    | cons x l ih =>
      intro k hk
      cases k with
      | zero => rfl
      | succ k => rw [List.take_succ_cons, flat_cons, flat_cons, ih k (by simpa using hk), show (k + 1) * 2 = k * 2 + 1 + 1 by omega]; rfl
  rw [hf l k hk, ← h4, List.take_take, List.length_take]
  congr 1
  omega
theorem rowE_clear {w : World} {g cap : Nat} {l : List (Int × Int)} (h : RowE w g l cap) (vs : List Value) : ∀ o, l.length * 2 ≤ o → RowE (w.setCells g o vs) g l cap := by
  induction vs generalizing w with
  | nil => intro o ho; exact h
  | cons v vs ih => intro o ho; exact ih (rowE_far h ho v) (o + 1) (by omega)
theorem below_clear {w a : World} {base g : Nat} (h : RowKit.Below base a w) (hg : base ≤ g) (vs : List Value) : ∀ o, RowKit.Below base a (w.setCells g o vs) := by
  induction vs generalizing w with
  | nil => intro o; exact h
  | cons v vs ih => intro o; exact ih (h.setCell (p := ⟨g, o, none⟩) hg v) (o + 1)
def comp (l : List (Int × Int)) : Nat → List (Int × Int)
  | 0 => []
  | p + 1 => comp l p ++ (if p = 0 ∨ l.getD p (0, 0) ≠ l.getD (p - 1) (0, 0) then [l.getD p (0, 0)] else [])
theorem comp_len (l : List (Int × Int)) : ∀ p, (comp l p).length ≤ p
  | 0 => Nat.le_refl _
  | p + 1 => by
    have := comp_len l p
    unfold comp
    split <;> simp <;> omega
theorem comp_same {l : List (Int × Int)} : ∀ p, p ≤ l.length → (∀ j, 0 < j → j < p → l.getD j (0, 0) ≠ l.getD (j - 1) (0, 0)) → comp l p = l.take p
  | 0, _, _ => by simp [comp]
  | p + 1, hp, h => by
    have ih := comp_same p (by omega) fun j h1 h2 => h j h1 (by omega)
    unfold comp
    rw [ih, if_pos]
    · rw [List.take_succ_eq_append_getElem (by omega), List.getD_eq_getElem?_getD, List.getElem?_eq_getElem (by omega)]
      rfl
    · by_cases h0 : p = 0
      · exact .inl h0
      · exact .inr (h p (by omega) (by omega))
end Go.Proofs.YtckemiefcdpofaaDoor.ED
