import Derived.Test.YtomknjmgcbbjlaaDoorFan
namespace Go.Proofs.YtomknjmgcbbjlaaDoor.LK
open Go.Proofs.YtomknjmgcbbjlaaDoor.Fan
set_option linter.unusedVariables false
set_option linter.unusedSimpArgs false
set_option maxRecDepth 100000
def map3 (ν : Int → Int) (q : Int × Int × Int) : Int × Int × Int := (ν q.1, ν q.2.1, ν q.2.2)
def flip3 (q : Int × Int × Int) : Int × Int × Int := (q.1, q.2.2, q.2.1)
def rot1 (q : Int × Int × Int) : Int × Int × Int := (q.2.1, q.2.2, q.1)
def Rot (x y : Int × Int × Int) : Prop := y = x ∨ y = rot1 x ∨ y = rot1 (rot1 x)
theorem Rot.refl (x : Int × Int × Int) : Rot x x := .inl rfl
theorem Rot.symm {x y : Int × Int × Int} (h : Rot x y) : Rot y x := by
  rcases h with rfl | rfl | rfl
  · exact .inl rfl
  · exact .inr (.inr rfl)
  · exact .inr (.inl rfl)
theorem rot_edges {x y : Int × Int × Int} (h : Rot x y) (e : Int × Int) : e ∈ edges3 y ↔ e ∈ edges3 x := by
  obtain ⟨a, b, c⟩ := x
  rcases h with rfl | rfl | rfl <;> simp only [edges3, rot1, List.mem_cons, List.not_mem_nil, or_false] <;> grind
theorem rot_has {x y : Int × Int × Int} (h : Rot x y) (v : Int) : has3 y v = has3 x v := by
  obtain ⟨a, b, c⟩ := x
  rcases h with rfl | rfl | rfl <;> simp only [has3, rot1] <;> grind
theorem rot_plain {x y : Int × Int × Int} (h : Rot x y) : plain3 y ↔ plain3 x := by
  obtain ⟨a, b, c⟩ := x
  rcases h with rfl | rfl | rfl <;> simp only [plain3, rot1] <;> grind
theorem rot_third {x y : Int × Int × Int} (h : Rot x y) (p q : Int) : y.1 + y.2.1 + y.2.2 - p - q = x.1 + x.2.1 + x.2.2 - p - q := by
  obtain ⟨a, b, c⟩ := x
  rcases h with rfl | rfl | rfl <;> simp only [rot1] <;> omega
theorem map_edges {ν : Int → Int} {x : Int × Int × Int} {e : Int × Int} : e ∈ edges3 (map3 ν x) ↔ ∃ a b, (a, b) ∈ edges3 x ∧ e = (ν a, ν b) := by
  obtain ⟨a, b, c⟩ := x
  simp only [edges3, map3, List.mem_cons, List.not_mem_nil, or_false, Prod.mk.injEq]
  constructor
  · rintro (rfl | rfl | rfl)
    · exact ⟨a, b, .inl ⟨rfl, rfl⟩, rfl⟩
    · exact ⟨b, c, .inr (.inl ⟨rfl, rfl⟩), rfl⟩
    · exact ⟨c, a, .inr (.inr ⟨rfl, rfl⟩), rfl⟩
  · rintro ⟨p, q, ⟨rfl, rfl⟩ | ⟨rfl, rfl⟩ | ⟨rfl, rfl⟩, rfl⟩
    · exact .inl rfl
    · exact .inr (.inl rfl)
    · exact .inr (.inr rfl)
theorem flip_edges {x : Int × Int × Int} {a b : Int} : (a, b) ∈ edges3 (flip3 x) ↔ (b, a) ∈ edges3 x := by
  obtain ⟨p, q, r⟩ := x
  simp only [edges3, flip3, List.mem_cons, List.not_mem_nil, or_false, Prod.mk.injEq]
  grind
theorem edge_has {q : Int × Int × Int} {a b : Int} (h : (a, b) ∈ edges3 q) : has3 q a = true ∧ has3 q b = true := by
  obtain ⟨x, y, z⟩ := q
  simp only [edges3, has3, List.mem_cons, List.not_mem_nil, or_false, Prod.mk.injEq, Bool.or_eq_true, beq_iff_eq] at *
  grind
def tw (fl : Bool) (e : Int × Int) : Int × Int := if fl then (e.2, e.1) else e
structure Like (In : Int → Prop) (ν : Int → Int) (fl : Bool) (tr : Nat → Int × Int × Int) (n : Nat) (tr' : Nat → Int × Int × Int) (n' : Nat) (σ : Nat → Nat) : Prop where
  lt : ∀ i, i < n → σ i < n'
  inj : ∀ i, i < n → ∀ j, j < n → σ i = σ j → i = j
  onto : ∀ j, j < n' → ∃ i, i < n ∧ σ i = j
  tri : ∀ i, i < n → Rot (map3 ν (if fl then flip3 (tr i) else tr i)) (tr' (σ i))
  vinj : ∀ a, In a → ∀ b, In b → ν a = ν b → a = b
  inn : ∀ i, i < n → ∀ v, has3 (tr i) v = true → In v
section
variable {In : Int → Prop} {ν : Int → Int} {fl : Bool} {tr : Nat → Int × Int × Int} {n : Nat} {tr' : Nat → Int × Int × Int} {n' : Nat} {σ : Nat → Nat}
theorem Like.edge (h : Like In ν fl tr n tr' n' σ) {i : Nat} (hi : i < n) {e : Int × Int} : e ∈ edges3 (tr' (σ i)) ↔ ∃ a b, (a, b) ∈ edges3 (tr i) ∧ e = tw fl (ν a, ν b) := by
  rw [rot_edges (h.tri i hi), map_edges]
  cases fl with
  | false => simp [tw]
  | true =>
    simp only [if_true, tw]
    constructor
    · rintro ⟨a, b, h1, rfl⟩; exact ⟨b, a, flip_edges.1 h1, rfl⟩
    · rintro ⟨a, b, h1, rfl⟩; exact ⟨b, a, flip_edges.2 h1, rfl⟩
theorem Like.edge' (h : Like In ν fl tr n tr' n' σ) {i : Nat} (hi : i < n) {a b : Int} (ha : In a) (hb : In b) : tw fl (ν a, ν b) ∈ edges3 (tr' (σ i)) ↔ (a, b) ∈ edges3 (tr i) := by
  rw [h.edge hi]
  constructor
  · rintro ⟨x, y, h1, h2⟩
    obtain ⟨h3, h4⟩ := edge_has h1
    have h5 : ν a = ν x ∧ ν b = ν y := by
      cases fl with
      | false => simpa [tw] using h2
      | true => have := by simpa [tw] using h2
                exact ⟨this.2, this.1⟩
    rw [h.vinj a ha x (h.inn i hi x h3) h5.1, h.vinj b hb y (h.inn i hi y h4) h5.2]
    exact h1
  · exact fun h1 => ⟨a, b, h1, rfl⟩
theorem map_has {ν : Int → Int} {x : Int × Int × Int} {u : Int} : has3 (map3 ν x) u = true ↔ ∃ v, has3 x v = true ∧ u = ν v := by
  obtain ⟨a, b, c⟩ := x
  simp only [has3, map3, Bool.or_eq_true, beq_iff_eq]
  constructor
  · rintro ((h | h) | h)
    · exact ⟨a, .inl (.inl rfl), h.symm⟩
    · exact ⟨b, .inl (.inr rfl), h.symm⟩
    · exact ⟨c, .inr rfl, h.symm⟩
  · rintro ⟨v, (rfl | rfl) | rfl, rfl⟩
    · exact .inl (.inl rfl)
    · exact .inl (.inr rfl)
    · exact .inr rfl
theorem flip_has {x : Int × Int × Int} {v : Int} : has3 (flip3 x) v = has3 x v := by
  obtain ⟨a, b, c⟩ := x
  simp only [has3, flip3]
  grind
theorem Like.has (h : Like In ν fl tr n tr' n' σ) {i : Nat} (hi : i < n) {u : Int} : has3 (tr' (σ i)) u = true ↔ ∃ v, has3 (tr i) v = true ∧ u = ν v := by
  rw [rot_has (h.tri i hi), map_has]
  cases fl with
  | false => simp
  | true => simp only [if_true, flip_has]
theorem Like.has' (h : Like In ν fl tr n tr' n' σ) {i : Nat} (hi : i < n) {v : Int} (hv : In v) : has3 (tr' (σ i)) (ν v) = true ↔ has3 (tr i) v = true := by
  rw [h.has hi]
  constructor
  · rintro ⟨u, h1, h2⟩; rw [h.vinj v hv u (h.inn i hi u h1) h2]; exact h1
  · exact fun h1 => ⟨v, h1, rfl⟩
theorem Like.plain (h : Like In ν fl tr n tr' n' σ) {i : Nat} (hi : i < n) : plain3 (tr' (σ i)) ↔ plain3 (tr i) := by
  rw [rot_plain (h.tri i hi)]
  have h0 := h.inn i hi
  generalize tr i = q at *
  obtain ⟨a, b, c⟩ := q
  have ha := h0 a (by simp [has3])
  have hb := h0 b (by simp [has3])
  have hc := h0 c (by simp [has3])
  have e1 : ν a = ν b ↔ a = b := ⟨h.vinj a ha b hb, fun x => by rw [x]⟩
  have e2 : ν b = ν c ↔ b = c := ⟨h.vinj b hb c hc, fun x => by rw [x]⟩
  have e3 : ν c = ν a ↔ c = a := ⟨h.vinj c hc a ha, fun x => by rw [x]⟩
  have e4 : ν a = ν c ↔ a = c := ⟨h.vinj a ha c hc, fun x => by rw [x]⟩
  have e5 : ν c = ν b ↔ c = b := ⟨h.vinj c hc b hb, fun x => by rw [x]⟩
  have e6 : ν b = ν a ↔ b = a := ⟨h.vinj b hb a ha, fun x => by rw [x]⟩
  cases fl <;> simp only [plain3, map3, flip3, ne_eq, if_true, if_false, e1, e2, e3, e4, e5, e6, Bool.false_eq_true] <;> grind
theorem Like.single (h : Like In ν fl tr n tr' n' σ) : (∀ i, i < n' → ∀ j, j < n' → ∀ e, e ∈ edges3 (tr' i) → e ∈ edges3 (tr' j) → i = j) ↔ (∀ i, i < n → ∀ j, j < n → ∀ e, e ∈ edges3 (tr i) → e ∈ edges3 (tr j) → i = j) := by
  constructor
  · rintro h1 i hi j hj ⟨a, b⟩ h2 h3
    exact h.inj i hi j hj (h1 _ (h.lt i hi) _ (h.lt j hj) (tw fl (ν a, ν b)) ((h.edge hi).2 ⟨a, b, h2, rfl⟩) ((h.edge hj).2 ⟨a, b, h3, rfl⟩))
  · rintro h1 i' hi' j' hj' e h2 h3
    obtain ⟨i, hi, rfl⟩ := h.onto i' hi'
    obtain ⟨j, hj, rfl⟩ := h.onto j' hj'
    obtain ⟨a, b, h4, rfl⟩ := (h.edge hi).1 h2
    obtain ⟨h5, h6⟩ := edge_has h4
    rw [h1 i hi j hj (a, b) h4 ((h.edge' hj (h.inn i hi a h5) (h.inn i hi b h6)).1 h3)]
theorem Like.good (h : Like In ν fl tr n tr' n' σ) (g : Fan.Good tr n) : Fan.Good tr' n' where
  pl := fun i' hi' => by
    obtain ⟨i, hi, rfl⟩ := h.onto i' hi'
    exact (h.plain hi).2 (g.pl i hi)
  one := h.single.2 g.one
theorem adj_edges {tr : Nat → Int × Int × Int} {n : Nat} (g : Fan.Good tr n) (v : Int) {a b : Nat} (ha : a ∈ atV tr n v) (hb : b ∈ atV tr n v) : adj (atF g v) a b ↔ ∃ x, ((x, v) ∈ edges3 (tr a) ∧ (v, x) ∈ edges3 (tr b)) ∨ ((x, v) ∈ edges3 (tr b) ∧ (v, x) ∈ edges3 (tr a)) := by
  obtain ⟨ha1, ha2⟩ := mem_atV.1 ha
  obtain ⟨hb1, hb2⟩ := mem_atV.1 hb
  have pa := g.pl a ha1
  have pb := g.pl b hb1
  unfold adj
  simp only [atF]
  constructor
  · rintro (h | h)
    · exact ⟨_, .inl ⟨(edge_to pa).2 ⟨ha2, rfl⟩, (edge_from pb).2 ⟨hb2, h.symm⟩⟩⟩
    · exact ⟨_, .inr ⟨(edge_to pb).2 ⟨hb2, rfl⟩, (edge_from pa).2 ⟨ha2, h.symm⟩⟩⟩
  · rintro ⟨x, ⟨h1, h2⟩ | ⟨h1, h2⟩⟩
    · exact .inl (((edge_to pa).1 h1).2.trans ((edge_from pb).1 h2).2.symm)
    · exact .inr (((edge_to pb).1 h1).2.trans ((edge_from pa).1 h2).2.symm)
theorem Like.at_ (h : Like In ν fl tr n tr' n' σ) {v : Int} (hv : In v) {i : Nat} (hi : i < n) : σ i ∈ atV tr' n' (ν v) ↔ i ∈ atV tr n v := by
  rw [mem_atV, mem_atV, h.has' hi hv]
  exact ⟨fun h1 => ⟨hi, h1.2⟩, fun h1 => ⟨h.lt i hi, h1.2⟩⟩
theorem Like.adj_ (h : Like In ν fl tr n tr' n' σ) (g : Fan.Good tr n) (g' : Fan.Good tr' n') {v : Int} (hv : In v) {a b : Nat} (ha : a ∈ atV tr n v) (hb : b ∈ atV tr n v) : adj (atF g' (ν v)) (σ a) (σ b) ↔ adj (atF g v) a b := by
  have ha1 := (mem_atV.1 ha).1
  have hb1 := (mem_atV.1 hb).1
  rw [adj_edges g v ha hb, adj_edges g' (ν v) ((h.at_ hv ha1).2 ha) ((h.at_ hv hb1).2 hb)]
  have key : ∀ {i j : Nat}, i < n → j < n → ∀ y, (y, ν v) ∈ edges3 (tr' (σ i)) → (ν v, y) ∈ edges3 (tr' (σ j)) → ∃ x, ((x, v) ∈ edges3 (tr i) ∧ (v, x) ∈ edges3 (tr j)) ∨ ((x, v) ∈ edges3 (tr j) ∧ (v, x) ∈ edges3 (tr i)) := by
    intro i j hi hj y h1 h2
    obtain ⟨u, h3, rfl⟩ := (h.has hi).1 (edge_has h1).1
    have hu := h.inn i hi u h3
    cases fl with
    | false => exact ⟨u, .inl ⟨(h.edge' hi hu hv).1 h1, (h.edge' hj hv hu).1 h2⟩⟩
    | true => exact ⟨u, .inr ⟨(h.edge' hj hu hv).1 h2, (h.edge' hi hv hu).1 h1⟩⟩
  have back : ∀ {i j : Nat}, i < n → j < n → ∀ x, (x, v) ∈ edges3 (tr i) → (v, x) ∈ edges3 (tr j) → ∃ y, ((y, ν v) ∈ edges3 (tr' (σ i)) ∧ (ν v, y) ∈ edges3 (tr' (σ j))) ∨ ((y, ν v) ∈ edges3 (tr' (σ j)) ∧ (ν v, y) ∈ edges3 (tr' (σ i))) := by
    intro i j hi hj x h1 h2
    have hx := h.inn i hi x (edge_has h1).1
    have k1 := (h.edge' hi hx hv).2 h1
    have k2 := (h.edge' hj hv hx).2 h2
    cases fl with
    | false => exact ⟨ν x, .inl ⟨k1, k2⟩⟩
    | true => exact ⟨ν x, .inr ⟨k2, k1⟩⟩
  constructor
  · rintro ⟨y, ⟨h1, h2⟩ | ⟨h1, h2⟩⟩
    · exact key ha1 hb1 y h1 h2
    · obtain ⟨x, h3⟩ := key hb1 ha1 y h1 h2
      exact ⟨x, h3.symm⟩
  · rintro ⟨x, ⟨h1, h2⟩ | ⟨h1, h2⟩⟩
    · exact back ha1 hb1 x h1 h2
    · obtain ⟨y, h3⟩ := back hb1 ha1 x h1 h2
      exact ⟨y, h3.symm⟩
theorem Like.whole (h : Like In ν fl tr n tr' n' σ) (g : Fan.Good tr n) (g' : Fan.Good tr' n') {v : Int} (hv : In v) : Whole (atF g' (ν v)) ↔ Whole (atF g v) := by
  constructor
  · intro hw a ha x hx S hS hC
    have ha1 := (mem_atV.1 (show a ∈ atV tr n v from ha)).1
    have hx1 := (mem_atV.1 (show x ∈ atV tr n v from hx)).1
    obtain ⟨y, hy, hy2, hy3⟩ := hw (σ a) ((h.at_ hv ha1).2 ha) (σ x) ((h.at_ hv hx1).2 hx) (fun z => ∃ y, y ∈ atV tr n v ∧ σ y = z ∧ S y) ⟨a, ha, rfl, hS⟩ (by
      rintro z hz u hu ⟨y, hy, rfl, hy3⟩ hadj
      obtain ⟨m, hm, rfl⟩ := h.onto u (mem_atV.1 (show u ∈ atV tr' n' (ν v) from hu)).1
      have hm2 := (h.at_ hv hm).1 hu
      exact ⟨m, hm2, rfl, hC y hy m hm2 hy3 ((h.adj_ g g' hv hy hm2).1 hadj)⟩)
    have : y = x := h.inj y (mem_atV.1 hy).1 x hx1 hy2
    rw [← this]
    exact hy3
  · intro hw a' ha' x' hx' S hS hC
    obtain ⟨a, ha, rfl⟩ := h.onto a' (mem_atV.1 (show a' ∈ atV tr' n' (ν v) from ha')).1
    obtain ⟨x, hx, rfl⟩ := h.onto x' (mem_atV.1 (show x' ∈ atV tr' n' (ν v) from hx')).1
    have ha2 := (h.at_ hv ha).1 ha'
    have hx2 := (h.at_ hv hx).1 hx'
    exact hw a ha2 x hx2 (fun z => S (σ z)) hS (by
      intro z hz u hu hz2 hadj
      have hz1 := (mem_atV.1 (show z ∈ atV tr n v from hz)).1
      have hu1 := (mem_atV.1 (show u ∈ atV tr n v from hu)).1
      exact hC (σ z) ((h.at_ hv hz1).2 hz) (σ u) ((h.at_ hv hu1).2 hu) hz2 ((h.adj_ g g' hv hz hu).2 hadj))
theorem Like.some_ (h : Like In ν fl tr n tr' n' σ) {v : Int} (hv : In v) : 0 < (atV tr' n' (ν v)).length ↔ 0 < (atV tr n v).length := by
  rw [List.length_pos_iff_exists_mem, List.length_pos_iff_exists_mem]
  constructor
  · rintro ⟨x, hx⟩
    obtain ⟨i, hi, rfl⟩ := h.onto x (mem_atV.1 hx).1
    exact ⟨i, (h.at_ hv hi).1 hx⟩
  · rintro ⟨i, hi⟩
    exact ⟨σ i, (h.at_ hv (mem_atV.1 hi).1).2 hi⟩
end
end Go.Proofs.YtomknjmgcbbjlaaDoor.LK
