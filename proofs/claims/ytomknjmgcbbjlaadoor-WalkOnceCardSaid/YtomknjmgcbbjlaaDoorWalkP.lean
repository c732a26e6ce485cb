import Derived.Test.YtomknjmgcbbjlaaDoorLikeP
namespace Go.Proofs.YtomknjmgcbbjlaaDoor.WP
open Go.Proofs.YtomknjmgcbbjlaaDoor.Fan Go.Proofs.YtomknjmgcbbjlaaDoor.LK
set_option linter.unusedVariables false
set_option linter.unusedSimpArgs false
set_option maxRecDepth 100000
abbrev Tri := Int × Int × Int
def fnd (V : List Int) (v : Int) : Int := if v ∈ V then (V.idxOf v : Int) else -1
def add (V : List Int) (v : Int) : List Int := if v ∈ V then V else V ++ [v]
def third (t : Tri) (p q : Int) : Int := t.1 + t.2.1 + t.2.2 - p - q
structure Wk where
  V : List Int
  O : List Nat
  R : List Tri
  T : List Tri
  G : List (Int × Int)
  S : List (Int × Int)
  B : List (Int × Int)
def init : Wk := ⟨[], [], [], [], [], [], []⟩
def first (n : Nat) (O : List Nat) : Option Nat := (List.range n).find? fun i => decide (i ∉ O)
section
variable (look : Int × Int → Option Nat) (tr : Nat → Tri) (n : Nat)
def gate (w : Wk) (p q : Int) : Wk :=
  match look (q, p) with
  | none => { w with S := w.S ++ [(1, 0)], B := w.B ++ [(p, q)] }
  | some i => if i ∈ w.O then w else
    { V := add w.V (third (tr i) p q), O := w.O ++ [i], R := w.R ++ [(q, p, third (tr i) p q)], T := w.T ++ [map3 (fnd (add w.V (third (tr i) p q))) (q, p, third (tr i) p q)], G := (third (tr i) p q, q) :: (p, third (tr i) p q) :: w.G, S := w.S ++ [if third (tr i) p q ∈ w.V then (3, fnd w.V (third (tr i) p q)) else (2, 0)], B := w.B }
def add3 (V : List Int) (t : Tri) : List Int := add (add (add V t.1) t.2.1) t.2.2
def seed (w : Wk) (i : Nat) : Wk :=
  { V := add3 w.V (tr i), O := w.O ++ [i], R := w.R ++ [tr i], T := w.T ++ [map3 (fnd (add3 w.V (tr i))) (tr i)], G := [((tr i).2.2, (tr i).1), ((tr i).2.1, (tr i).2.2), ((tr i).1, (tr i).2.1)], S := w.S ++ [(0, 0)], B := w.B }
def next (w : Wk) : Option Wk :=
  match w.G with
  | g :: r => some (gate look tr { w with G := r } g.1 g.2)
  | [] => match first n w.O with
    | some i => some (seed tr w i)
    | none => none
def iter : Nat → Wk → Wk
  | 0, w => w
  | k + 1, w => match next look tr n w with
    | none => w
    | some w' => iter k w'
inductive Reach : Wk → Prop
  | init : Reach init
  | next {w w' : Wk} : Reach w → next look tr n w = some w' → Reach w'
def fin : Wk := iter look tr n (4 * n + 1) init
end
theorem first_some {n i : Nat} {O : List Nat} (h : first n O = some i) : i < n ∧ i ∉ O ∧ ∀ j, j < i → j ∈ O := by
  unfold first at h
  rw [List.find?_range_eq_some] at h
  obtain ⟨h1, h2, h3⟩ := h
  refine ⟨List.mem_range.1 h2, of_decide_eq_true h1, fun j hj => ?_⟩
  have := h3 j hj
  simpa using this
theorem first_none {n : Nat} {O : List Nat} (h : first n O = none) : ∀ i, i < n → i ∈ O := by
  intro i hi
  unfold first at h
  rw [List.find?_eq_none] at h
  have := h i (List.mem_range.2 hi)
  simpa using this
theorem first_is {n i : Nat} {O : List Nat} (hi : i < n) (h1 : i ∉ O) (h2 : ∀ j, j < i → j ∈ O) : first n O = some i := by
  unfold first
  rw [List.find?_range_eq_some]
  exact ⟨by simpa using h1, List.mem_range.2 hi, fun j hj => by simpa using h2 j hj⟩
theorem mem_add {V : List Int} {v x : Int} : x ∈ add V v ↔ x ∈ V ∨ x = v := by
  unfold add
  split
  · exact ⟨.inl, fun h => h.elim id fun e => by subst e; assumption⟩
  · rw [List.mem_append, List.mem_singleton]
theorem nodup_add {V : List Int} (h : V.Nodup) (v : Int) : (add V v).Nodup := by
  unfold add
  split
  · exact h
  · rename_i hv
    rw [List.nodup_append]
    exact ⟨h, by simp, fun a ha b hb e => by rw [List.mem_singleton] at hb; subst hb; subst e; exact hv ha⟩
theorem fnd_app {V : List Int} (X : List Int) {v : Int} (h : v ∈ V) : fnd (V ++ X) v = fnd V v := by
  unfold fnd
  rw [if_pos (List.mem_append_left _ h), if_pos h, List.idxOf_append, if_pos h]
theorem fnd_add {V : List Int} (x : Int) {v : Int} (h : v ∈ V) : fnd (add V x) v = fnd V v := by
  unfold add
  split
  · rfl
  · exact fnd_app _ h
theorem mem_add3 {V : List Int} {t : Tri} {x : Int} : x ∈ add3 V t ↔ x ∈ V ∨ has3 t x = true := by
  unfold add3
  rw [mem_add, mem_add, mem_add]
  simp only [has3, Bool.or_eq_true, beq_iff_eq]
  constructor
  · rintro (((h | h) | h) | h)
    · exact .inl h
    · exact .inr (.inl (.inl h.symm))
    · exact .inr (.inl (.inr h.symm))
    · exact .inr (.inr h.symm)
  · rintro (h | (h | h) | h)
    · exact .inl (.inl (.inl h))
    · exact .inl (.inl (.inr h.symm))
    · exact .inl (.inr h.symm)
    · exact .inr h.symm
theorem nodup_add3 {V : List Int} (h : V.Nodup) (t : Tri) : (add3 V t).Nodup := nodup_add (nodup_add (nodup_add h _) _) _
theorem fnd_add3 {V : List Int} (t : Tri) {v : Int} (h : v ∈ V) : fnd (add3 V t) v = fnd V v := by
  unfold add3
  rw [fnd_add _ (mem_add.2 (.inl (mem_add.2 (.inl h)))), fnd_add _ (mem_add.2 (.inl h)), fnd_add _ h]
theorem map3_congr {f g : Int → Int} {t : Tri} (h : ∀ v, has3 t v = true → f v = g v) : map3 f t = map3 g t := by
  obtain ⟨a, b, c⟩ := t
  unfold map3
  rw [h a (by simp [has3]), h b (by simp [has3]), h c (by simp [has3])]
theorem rot_third_of {t : Tri} {p q : Int} (h : (q, p) ∈ edges3 t) : Rot t (q, p, third t p q) := by
  obtain ⟨a, b, c⟩ := t
  simp only [edges3, List.mem_cons, List.not_mem_nil, or_false, Prod.mk.injEq] at h
  unfold third Rot rot1
  simp only [Prod.mk.injEq]
  rcases h with ⟨rfl, rfl⟩ | ⟨rfl, rfl⟩ | ⟨rfl, rfl⟩
  · exact .inl ⟨rfl, rfl, by omega⟩
  · exact .inr (.inl ⟨rfl, rfl, by omega⟩)
  · exact .inr (.inr ⟨rfl, rfl, by omega⟩)
end Go.Proofs.YtomknjmgcbbjlaaDoor.WP
