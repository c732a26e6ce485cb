import Derived.Test.YtomknjmgcbbjlaaDoorWWords
import Derived.Deep.Slices
import Derived.Deep.Strs
import Derived.SizedLaws
import Derived.ChangeSlices
import Derived.DataReads
import Derived.ChangeSame
import Derived.Laws.IdiomArrays
namespace Go.Proofs.YtomknjmgcbbjlaaDoor.Opens
open Go Go.RowKit Go.Deep Go.ChangeShapes Go.WideShapes Go.Proofs.YtomknjmgcbbjlaaDoorW.PrintWords
set_option linter.unusedVariables false
def Op {H : Type} (enc : TypeId × Value → H) (P : Program) (W : World) (base : Nat) (spare : Nat → Bool) (held : Bool) (t : TypeId) {α : Type} (d : Kd α) (good : α → Prop) : Prop :=
  ∀ fuel cs x, DataW.trod enc P W base spare held fuel t cs = some x → (x.1.weights P t).all (· ≤ reachBytes) = true → ∃ z, d.K W z cs ∧ good z
section
variable {H : Type} {enc : TypeId × Value → H} {P : Program} {W : World} {base : Nat} {spare : Nat → Bool} {held : Bool} {t e : TypeId}
theorem weights_all {ds : List (DataW H)} {D : DataW H} (hD : D ∈ ds) (h : (DataW.weightsAll P e ds).all (· ≤ reachBytes) = true) : (D.weights P e).all (· ≤ reachBytes) = true := by
  induction ds with
  | nil => cases hD
  | cons d r ih =>
    rw [DataW.weightsAll, List.all_append, Bool.and_eq_true] at h
    rcases List.mem_cons.1 hD with rfl | hD
    · exact h.1
    · exact ih hD h.2
theorem op_slice {α : Type} {d : Kd α} {good : α → Prop} (ht : P.underlying t = some (.slice e)) (hsz : P.cellsOf e = d.sz) (hd : Op enc P W base spare held e d good) :
    Op enc P W base spare held t (Kd.slice e d) (fun l => l.length * P.bytesOf e ≤ reachBytes ∧ ∀ z ∈ l, good z) := by
  intro fuel cs x h hw
  rcases open_slice ht h with ⟨rfl, rfl⟩ | ⟨a, len, cap, m, n, D, Pl, rfl, hb, hl, hm, hmm, rfl, hx⟩
  · exact ⟨[], ⟨none, 0, rfl, Nat.le_refl _, Kd.C_nil d W⟩, by simp, fun z hz => nomatch hz⟩
  · have hlm : len ≤ m := by rw [hmm]; split <;> omega
    simp only [DataW.weights, ht] at hw
    rw [List.all_cons, Bool.and_eq_true, decide_eq_true_eq, List.all_append, Bool.and_eq_true] at hw
    obtain ⟨hw0, hw1, hw2⟩ := hw
    have hone : ∀ i, i < len → ∃ z c, c.length = d.sz ∧ d.K W z c ∧ good z ∧ ∀ j u, c[j]? = some u → W.cell? (a.add (i * d.sz + j)) = some u := by
      intro i hi
      obtain ⟨cs', h1, h2⟩ := hx i (by omega)
      obtain ⟨z, hz, hg⟩ := hd _ _ _ h2 (weights_all (List.mem_map.2 ⟨i, List.mem_range.2 hi, rfl⟩) hw1)
      obtain ⟨hbb, hlen, hc⟩ := World.cells?_some h1
      refine ⟨z, cs', d.K_len hz, hz, hg, fun j u hj => ?_⟩
      have hjl : j < cs'.length := (List.getElem?_eq_some_iff.1 hj).1
      have := hc j (by omega)
      rw [hj, Go.Deep.add_add, hsz] at this
      exact this
    have hall : ∀ L, L ≤ len → ∃ zs : List α, zs.length = L ∧ ∀ j p, zs[j]? = some p → good p ∧ ∃ c, c.length = d.sz ∧ d.K W p c ∧ ∀ i u, c[i]? = some u → W.cell? (a.add (j * d.sz + i)) = some u := by
      intro L
      induction L with
      | zero => intro _; exact ⟨[], rfl, fun j p hj => by simp at hj⟩
      | succ L ih =>
        intro hL
        obtain ⟨zs, hzl, hz⟩ := ih (by omega)
        obtain ⟨z, c, hc1, hc2, hg, hc3⟩ := hone L (by omega)
        refine ⟨zs ++ [z], by simp [hzl], fun j p hj => ?_⟩
        rcases Nat.lt_or_ge j zs.length with h1 | h1
        · rw [List.getElem?_append_left h1] at hj
          exact hz j p hj
        · rw [List.getElem?_append_right h1] at hj
          have hj0 : j - zs.length = 0 := by
            have := (List.getElem?_eq_some_iff.1 hj).1
            simp at this
            omega
          rw [hj0] at hj
          simp at hj
          subst hj
          have : j = L := by omega
          subst this
          exact ⟨hg, c, hc1, hc2, hc3⟩
    obtain ⟨zs, hzl, hz⟩ := hall len (Nat.le_refl _)
    refine ⟨zs, ⟨some a, cap, by rw [hzl], by rw [hzl]; exact hl, hzl.symm ▸ rfl, ?_, ?_⟩, ?_, ?_⟩
    · rw [hzl]
      have : cap ≤ 9223372036854775807 := hm
      omega
    · intro _
      exact ⟨a, rfl, fun j p hj => (hz j p hj).2⟩
    · rw [hzl]
      have := hw0
      simp only [List.length_map, List.length_range] at this
      exact Nat.le_trans (Nat.mul_le_mul_right _ (Nat.le_add_right _ _)) this
    · intro z hz'
      obtain ⟨j, hj, rfl⟩ := List.getElem_of_mem hz'
      exact (hz j _ (List.getElem?_eq_getElem hj)).1
theorem op_struct3i {α : Type} {d : Kd α} {good : α → Prop} {f0 f1 f2 : Field} {k0 k1 k2 : IntKind} (ht : P.underlying t = some (.struct #[f0, f1, f2])) (hc : P.cellsOf t = 3)
    (o0 : f0.offset = 0) (o1 : f1.offset = 1) (o2 : f2.offset = 2) (c0 : P.cellsOf f0.type = 1) (c1 : P.cellsOf f1.type = 1) (c2 : P.cellsOf f2.type = 1)
    (u0 : P.underlying f0.type = some (.int k0)) (u1 : P.underlying f1.type = some (.int k1)) (u2 : P.underlying f2.type = some (.int k2))
    (mk : ∀ a b c, (Lit.int k0 a).wf = true → (Lit.int k1 b).wf = true → (Lit.int k2 c).wf = true → ∃ z, d.K W z [.int k0 a, .int k1 b, .int k2 c] ∧ good z) : Op enc P W base spare held t d good := by
  intro fuel cs x h hw
  obtain ⟨y0, y1, y2, n, rfl, hl, h0, h1, h2⟩ := trod_struct3 ht h
  rw [hc] at hl
  match cs, hl with
  | [a, b, c], _ =>
    rw [o0, c0] at h0
    rw [o1, c1] at h1
    rw [o2, c2] at h2
    obtain ⟨a', e0, _, w0⟩ := DataW.trod_int u0 h0
    obtain ⟨b', e1, _, w1⟩ := DataW.trod_int u1 h1
    obtain ⟨c', e2, _, w2⟩ := DataW.trod_int u2 h2
    simp at e0 e1 e2
    subst e0; subst e1; subst e2
    exact mk _ _ _ w0 w1 w2
end
end Go.Proofs.YtomknjmgcbbjlaaDoor.Opens
namespace Go.Proofs.YtomknjmgcbbjlaaDoor.Opens
open Go Go.RowKit Go.Deep Go.ChangeShapes Go.WideShapes Go.Proofs.YtomknjmgcbbjlaaDoorW.PrintWords
set_option linter.unusedVariables false
section
variable {H : Type} {enc : TypeId × Value → H} {P : Program} {W : World} {base : Nat} {spare : Nat → Bool} {held : Bool} {t e : TypeId}
theorem array3_len {fuel : Nat} {cs : List Value} {x : DataW H × List MemPlace} (ht : P.underlying t = some (.array 3 e)) (hc : P.cellsOf t = 3) (h : DataW.trod enc P W base spare held fuel t cs = some x) : cs.length = 3 := by
  cases fuel with
  | zero => simp [DataW.trod] at h
  | succ n =>
    unfold DataW.trod at h
    rw [ht] at h
    dsimp only at h
    rw [hc] at h
    by_cases hh : cs.length = 3
    · exact hh
    · rw [if_neg hh] at h; cases h
theorem op_array3i {α : Type} {d : Kd α} {good : α → Prop} {k : IntKind} (ht : P.underlying t = some (.array 3 e)) (hc : P.cellsOf t = 3) (hce : P.cellsOf e = 1) (ue : P.underlying e = some (.int k))
    (mk : ∀ a b c, (Lit.int k a).wf = true → (Lit.int k b).wf = true → (Lit.int k c).wf = true → ∃ z, d.K W z [.int k a, .int k b, .int k c] ∧ good z) : Op enc P W base spare held t d good := by
  intro fuel cs x h hw
  have hl : cs.length = 3 := array3_len ht hc h
  match cs, hl with
  | [a, b, c], _ =>
    obtain ⟨y0, y1, y2, n, rfl, h0, h1, h2⟩ := trod_array3 ht hce h
    obtain ⟨a', e0, _, w0⟩ := DataW.trod_int ue h0
    obtain ⟨b', e1, _, w1⟩ := DataW.trod_int ue h1
    obtain ⟨c', e2, _, w2⟩ := DataW.trod_int ue h2
    simp at e0 e1 e2
    subst e0; subst e1; subst e2
    exact mk _ _ _ w0 w1 w2
theorem op_struct2 {α β : Type} {d0 : Kd α} {d1 : Kd β} {g0 : α → Prop} {g1 : β → Prop} {f0 f1 : Field} (ht : P.underlying t = some (.struct #[f0, f1])) (hc : P.cellsOf t = d0.sz + d1.sz)
    (o0 : f0.offset = 0) (o1 : f1.offset = d0.sz) (c0 : P.cellsOf f0.type = d0.sz) (c1 : P.cellsOf f1.type = d1.sz)
    (h0 : Op enc P W base spare held f0.type d0 g0) (h1 : Op enc P W base spare held f1.type d1 g1) : Op enc P W base spare held t (Kd.pair d0 d1) (fun z => g0 z.1 ∧ g1 z.2) := by
  intro fuel cs x h hw
  obtain ⟨y0, y1, n, rfl, hl, e0, e1⟩ := trod_struct2 ht h
  simp only [DataW.weights, ht] at hw
  simp only [DataW.weightsEach, List.map_cons, List.map_nil, List.all_append, Bool.and_eq_true] at hw
  obtain ⟨z0, k0, q0⟩ := h0 _ _ _ e0 hw.1
  obtain ⟨z1, k1, q1⟩ := h1 _ _ _ e1 hw.2.1
  rw [o0, c0, List.drop_zero] at k0
  rw [o1, c1] at k1
  refine ⟨(z0, z1), ⟨_, _, ?_, k0, k1⟩, q0, q1⟩
  rw [List.take_of_length_le (l := cs.drop d0.sz) (by rw [List.length_drop, hl, hc]; omega), List.take_append_drop]
theorem open_agg {α : Type} {d : Kd α} {good : α → Prop} {ts : List TypeId} {ds : List (DataW H)} {j : Nat} {cs : Array Value} {D : DataW H} {ps : List MemPlace}
    (hsz : (DataW.weightsEach P ts ds).all (· ≤ reachBytes) = true) (hj : ts[j]? = some t) (hdj : ds[j]? = some D) (hop : Op enc P W base spare held t d good) (h : DataW.Trod enc P W base spare held t (.agg cs) D ps) :
    ∃ z : α, d.K W z cs.toList ∧ good z := by
  obtain ⟨fuel, hf⟩ := h
  have hw : (D.weights P t).all (· ≤ reachBytes) = true := by
    induction ds generalizing ts j with
    | nil => simp at hdj
    | cons d0 r ih =>
      cases ts with
      | nil => simp at hj
      | cons t0 ts =>
        rw [DataW.weightsEach, List.all_append, Bool.and_eq_true] at hsz
        cases j with
        | zero => simp at hj hdj; subst hj; subst hdj; exact hsz.1
        | succ j => exact ih hsz.2 (by simpa using hj) (by simpa using hdj)
  exact hop _ _ _ hf hw
end
end Go.Proofs.YtomknjmgcbbjlaaDoor.Opens
