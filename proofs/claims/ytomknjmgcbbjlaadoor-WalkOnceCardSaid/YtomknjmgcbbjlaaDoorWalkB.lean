import Derived.Test.YtomknjmgcbbjlaaDoorWalkG
import Derived.Test.YtomknjmgcbbjlaaDoorWalkC
import Derived.Test.YtomknjmgcbbjlaaDoorCheckStub
namespace Go.Proofs.YtomknjmgcbbjlaaDoor.WW
open Go Go.RowKit Go.Proofs.YtomknjmgcbbjlaaDoor.PWlk
open Go.Proofs.YtomknjmgcbbjlaaDoor.MM (edgesU trs trT)
open Go.Proofs.YtomknjmgcbbjlaaDoor.WP
open Go.Proofs.YtomknjmgcbbjlaaDoor.Fan (edges3 has3)
set_option linter.unusedVariables false
set_option linter.unusedSimpArgs false
set_option maxRecDepth 100000
theorem sub_len {α : Type} [DecidableEq α] : ∀ {m l : List α}, m.Nodup → (∀ x ∈ m, x ∈ l) → m.length ≤ l.length := by
  intro m
  induction m with
  | nil => intro l _ _; exact Nat.zero_le _
  | cons a m ih =>
    intro l hn hs
    have ha := hs a (List.mem_cons_self ..)
    rw [List.nodup_cons] at hn
    have h1 := ih (l := l.erase a) hn.2 fun x hx => by
      have hne : x ≠ a := fun h => hn.1 (h ▸ hx)
      exact (List.mem_erase_of_ne hne).2 (hs x (List.mem_cons_of_mem _ hx))
    rw [List.length_erase_of_mem ha] at h1
    have := List.length_pos_of_mem ha
    rw [List.length_cons]
    omega
variable {P : List S46} {T : List S47}
theorem edgesU_len (T : List S47) : ∀ n, (edgesU T n).length = 3 * n
  | 0 => rfl
  | n + 1 => by rw [edgesU, List.length_append, edgesU_len T n, List.length_map]; show _ + 3 = _; omega
theorem cnt_sum : ∀ (S : List (Int × Int)), (∀ s, s ∈ S → 0 ≤ s.1 ∧ s.1 ≤ 3) → S.length = cnt 0 S + cnt 1 S + cnt 2 S + cnt 3 S
  | [], _ => rfl
  | s :: S, h => by
    have h0 := h s (List.mem_cons_self ..)
    have ih := cnt_sum S fun x hx => h x (List.mem_cons_of_mem _ hx)
    unfold cnt at *
    rw [List.length_cons, List.countP_cons, List.countP_cons, List.countP_cons, List.countP_cons]
    have : s.1 = 0 ∨ s.1 = 1 ∨ s.1 = 2 ∨ s.1 = 3 := by omega
    rcases this with h1 | h1 | h1 | h1 <;> simp [h1] <;> omega
theorem small_of (hS : Surf P T) {s : Wk} (h : Inv (MC.look T) (trs T) T.length s) : Small s := by
  have hO := inv_le h
  have hT8 := hS.hT
  have hP4 := hS.hP
  have hV : s.V.length ≤ P.length := by
    have := sub_len (l := (List.range P.length).map fun i : Nat => (i : Int)) h.vnd fun v hv => by
      obtain ⟨i, hi, h2⟩ := (h.vO v).1 hv
      have := hS.rng (h.olt i hi) h2
      exact List.mem_map.2 ⟨v.toNat, List.mem_range.2 (by omega), by omega⟩
    simpa using this
  have hGB : (s.G ++ s.B).length ≤ 3 * T.length := by
    have := sub_len (l := (edgesU T T.length).map (·.1)) h.gnd fun g hg => by
      obtain ⟨i, hi, h2⟩ := h.gts g hg
      exact MC.mem_fst.2 ⟨i, h.olt i hi, h2⟩
    rwa [List.length_map, edgesU_len] at this
  rw [List.length_append] at hGB
  have hSl := cnt_sum s.S h.kind
  have h1 := h.nB
  have h2 := h.nT
  have h3 := h.len
  refine ⟨by omega, by omega, by rw [h.tm, List.length_map]; omega, by omega, by omega⟩
theorem tab_of {P : List S46} {T : List S47} (hp : MR.Plain P T) (hs : MR.Single T) : Tab (MC.look T) (trs T) T.length where
  good := MR.good_of hp hs
  some_ := fun e i h => MC.look_some h
  none_ := fun e h => MC.look_none h
theorem surf_of {P : List S46} {T : List S47} (ht : MR.Told P T 0) : Surf P T ∧ MR.Single T := by
  generalize h0 : (0 : Int) = r at ht
  cases ht with
  | long h => cases h0
  | arg _ h => cases h0
  | edge _ _ h => cases h0
  | vertex _ _ _ h => cases h0
  | ok h hp hs _ =>
    refine ⟨⟨hp, ?_, h.1, h.2⟩, hs⟩
    intro j hj e he m hm hc
    have := hs j hj m (by omega) e he hc
    omega
end Go.Proofs.YtomknjmgcbbjlaaDoor.WW
