namespace Go.Proofs.YtomknjmgcbbjlaaDoor.Fan
set_option linter.unusedVariables false
set_option maxRecDepth 100000
set_option linter.unusedSimpArgs false
structure At where
  as : List Nat
  fr : Nat → Int
  to : Nat → Int
  nd : as.Nodup
  hfr : ∀ a, a ∈ as → ∀ b, b ∈ as → fr a = fr b → a = b
  hto : ∀ a, a ∈ as → ∀ b, b ∈ as → to a = to b → a = b
variable (A : At)
def adj (a b : Nat) : Prop := A.to a = A.fr b ∨ A.to b = A.fr a
theorem adj_symm {a b : Nat} (h : adj A a b) : adj A b a := h.symm
def Closed (S : Nat → Prop) : Prop := ∀ x, x ∈ A.as → ∀ y, y ∈ A.as → S x → adj A x y → S y
def conn (a x : Nat) : Prop := ∀ S : Nat → Prop, S a → Closed A S → S x
theorem conn_refl (a : Nat) : conn A a a := fun S h _ => h
theorem conn_step {a x y : Nat} (h : conn A a x) (hx : x ∈ A.as) (hy : y ∈ A.as) (hxy : adj A x y) : conn A a y := fun S h0 hS => hS x hx y hy (h S h0 hS) hxy
theorem conn_symm {a b : Nat} (h : conn A a b) : conn A b a := by
  refine h (fun z => conn A z a) (conn_refl A a) ?_
  intro x hx y hy hxa hxy S hS hC
  exact hxa S (hC y hy x hx hS (adj_symm A hxy)) hC
theorem conn_trans {a b c : Nat} (h : conn A a b) (k : conn A b c) : conn A a c := fun S hS hC => k S (h S hS hC) hC
def Chain : List Nat → Prop
  | [] => True
  | [_] => True
  | a :: b :: r => A.to a = A.fr b ∧ Chain (b :: r)
theorem chain_next : ∀ {l : List Nat}, Chain A l → ∀ x, x ∈ l → l.getLast? = some x ∨ ∃ y, y ∈ l.tail ∧ A.to x = A.fr y := by
  intro l
  induction l with
  | nil => intro _ x hx; cases hx
  | cons a r ih =>
    intro h x hx
    cases r with
    | nil =>
      rcases List.mem_cons.1 hx with rfl | hx
      · exact .inl rfl
      · cases hx
    | cons b r =>
      rcases List.mem_cons.1 hx with rfl | hx
      · exact .inr ⟨b, List.mem_cons_self .., h.1⟩
      · rcases ih h.2 x hx with h1 | ⟨y, hy, e⟩
        · exact .inl (by rw [List.getLast?_cons_cons]; exact h1)
        · exact .inr ⟨y, List.mem_cons_of_mem _ hy, e⟩
theorem chain_prev : ∀ {l : List Nat}, Chain A l → ∀ x, x ∈ l → l.head? = some x ∨ ∃ y, y ∈ l.dropLast ∧ A.to y = A.fr x := by
  intro l
  induction l with
  | nil => intro _ x hx; cases hx
  | cons a r ih =>
    intro h x hx
    cases r with
    | nil =>
      rcases List.mem_cons.1 hx with rfl | hx
      · exact .inl rfl
      · cases hx
    | cons b r =>
      rcases List.mem_cons.1 hx with rfl | hx
      · exact .inl rfl
      · rcases ih h.2 x hx with h1 | ⟨y, hy, e⟩
        · have : b = x := by simpa using h1
          subst this
          exact .inr ⟨a, by simp, h.1⟩
        · exact .inr ⟨y, by rw [List.dropLast_cons_of_ne_nil (by simp)]; exact List.mem_cons_of_mem _ hy, e⟩
theorem chain_snoc : ∀ {l : List Nat} {x c : Nat}, Chain A l → l.getLast? = some x → A.to x = A.fr c → Chain A (l ++ [c]) := by
  intro l
  induction l with
  | nil => intro x c _ h; cases h
  | cons a r ih =>
    intro x c h hx e
    cases r with
    | nil =>
      have : a = x := by simpa using hx
      subst this
      exact ⟨e, trivial⟩
    | cons b r =>
      rw [List.getLast?_cons_cons] at hx
      exact ⟨h.1, ih h.2 hx e⟩
structure Met (first : Nat) (l : List Nat) : Prop where
  chain : Chain A l
  nd : l.Nodup
  sub : ∀ x, x ∈ l → x ∈ A.as
  has : first ∈ l
  con : ∀ x, x ∈ l → conn A first x
theorem met_one {first : Nat} (h : first ∈ A.as) : Met A first [first] :=
  ⟨trivial, by simp, fun x hx => by rw [List.mem_singleton] at hx; rw [hx]; exact h, List.mem_singleton.2 rfl, fun x hx => by rw [List.mem_singleton] at hx; rw [hx]; exact conn_refl A _⟩
theorem len_le : ∀ {l m : List Nat}, l.Nodup → (∀ x, x ∈ l → x ∈ m) → l.length ≤ m.length := by
  intro l
  induction l with
  | nil => intro m _ _; exact Nat.zero_le _
  | cons a r ih =>
    intro m hn hs
    have ha := hs a (List.mem_cons_self ..)
    have h1 := List.nodup_cons.1 hn
    have h2 : r.length ≤ (m.erase a).length := ih h1.2 fun x hx => (List.mem_erase_of_ne (fun e => h1.1 (by rw [← e]; exact hx))).2 (hs x (List.mem_cons_of_mem _ hx))
    rw [List.length_erase_of_mem ha] at h2
    have : 0 < m.length := List.length_pos_of_mem ha
    rw [List.length_cons]
    omega
theorem all_in {l m : List Nat} (hn : l.Nodup) (hs : ∀ x, x ∈ l → x ∈ m) (hl : m.length ≤ l.length) : ∀ x, x ∈ m → x ∈ l := by
  intro x hx
  refine Decidable.byContradiction fun hc => ?_
  have := len_le (l := x :: l) (m := m) (List.nodup_cons.2 ⟨hc, hn⟩) (fun y hy => by rcases List.mem_cons.1 hy with rfl | hy; exact hx; exact hs y hy)
  rw [List.length_cons] at this
  omega
theorem met_len {first : Nat} {l : List Nat} (h : Met A first l) : l.length ≤ A.as.length := by
  exact len_le h.nd h.sub
theorem last_not {l : List Nat} {x : Nat} (hl : l.Nodup) (h : l.getLast? = some x) : x ∉ l.dropLast := by
  obtain ⟨r, hr⟩ : ∃ r, l = r ++ [x] := by
    rw [List.getLast?_eq_some_iff] at h
    exact h
  subst hr
  rw [List.dropLast_concat]
  rw [List.nodup_append] at hl
  intro hx
  exact hl.2.2 x hx x (List.mem_singleton.2 rfl) rfl
theorem head_not {l : List Nat} {x : Nat} (hl : l.Nodup) (h : l.head? = some x) : x ∉ l.tail := by
  cases l with
  | nil => cases h
  | cons a r =>
    have : a = x := by simpa using h
    subst this
    exact (List.nodup_cons.1 hl).1
theorem met_snoc {first last c : Nat} {l : List Nat} (h : Met A first l) (hh : l.head? = some first) (hl : l.getLast? = some last) (hc : c ∈ A.as) (e : A.to last = A.fr c) (hne : c ≠ first) : Met A first (l ++ [c]) := by
  have hlast : last ∈ l := List.mem_of_getLast? hl
  have hcl : c ∉ l := by
    intro hcl
    rcases chain_prev A h.chain c hcl with h1 | ⟨y, hy, e2⟩
    · rw [hh] at h1; exact hne (Option.some.inj h1).symm
    · have hyl : y ∈ l := (List.dropLast_sublist l).subset hy
      have : y = last := A.hto y (h.sub y hyl) last (h.sub last hlast) (e2.trans e.symm)
      subst this
      exact last_not h.nd hl hy
  refine ⟨chain_snoc A h.chain hl e, ?_, ?_, List.mem_append_left _ h.has, ?_⟩
  · rw [List.nodup_append]
    exact ⟨h.nd, by simp, fun a ha b hb hab => by rw [List.mem_singleton] at hb; subst hb; subst hab; exact hcl ha⟩
  · intro x hx
    rcases List.mem_append.1 hx with hx | hx
    · exact h.sub x hx
    · rw [List.mem_singleton] at hx; rw [hx]; exact hc
  · intro x hx
    rcases List.mem_append.1 hx with hx | hx
    · exact h.con x hx
    · rw [List.mem_singleton] at hx; rw [hx]
      exact conn_step A (h.con last hlast) (h.sub last hlast) hc (.inl e)
theorem met_cons {first last head p : Nat} {l : List Nat} (h : Met A first l) (hh : l.head? = some head) (hl : l.getLast? = some last) (hend : ∀ c, c ∈ A.as → A.to last ≠ A.fr c) (hp : p ∈ A.as) (e : A.to p = A.fr head) : Met A first (p :: l) ∧ (p :: l).head? = some p ∧ (p :: l).getLast? = some last := by
  have hhead : head ∈ l := List.mem_of_head? hh
  have hpl : p ∉ l := by
    intro hpl
    rcases chain_next A h.chain p hpl with h1 | ⟨y, hy, e2⟩
    · rw [hl] at h1
      have : last = p := Option.some.inj h1
      subst this
      exact hend head (h.sub head hhead) e
    · have hyl : y ∈ l := List.mem_of_mem_tail hy
      have : y = head := A.hfr y (h.sub y hyl) head (h.sub head hhead) (e2.symm.trans e)
      subst this
      exact head_not h.nd hh hy
  refine ⟨⟨?_, List.nodup_cons.2 ⟨hpl, h.nd⟩, ?_, List.mem_cons_of_mem _ h.has, ?_⟩, rfl, ?_⟩
  · cases l with
    | nil => trivial
    | cons a r =>
      have : a = head := by simpa using hh
      subst this
      exact ⟨e, h.chain⟩
  · intro x hx
    rcases List.mem_cons.1 hx with rfl | hx
    · exact hp
    · exact h.sub x hx
  · intro x hx
    rcases List.mem_cons.1 hx with rfl | hx
    · exact conn_step A (h.con head hhead) (h.sub head hhead) hp (.inr e)
    · exact h.con x hx
  · cases l with
    | nil => cases hl
    | cons a r => rw [List.getLast?_cons_cons]; exact hl
theorem met_closed {first : Nat} {l : List Nat} (h : Met A first l) (hL : ∀ x y, l.getLast? = some x → y ∈ A.as → A.to x = A.fr y → y ∈ l) (hH : ∀ x y, l.head? = some x → y ∈ A.as → A.to y = A.fr x → y ∈ l) : Closed A (fun x => x ∈ l) := by
  intro x hx y hy hxl hxy
  rcases hxy with e | e
  · rcases chain_next A h.chain x hxl with h1 | ⟨z, hz, e2⟩
    · exact hL x y h1 hy e
    · have hzl := List.mem_of_mem_tail hz
      have : z = y := A.hfr z (h.sub z hzl) y hy (e2.symm.trans e)
      rw [← this]; exact hzl
  · rcases chain_prev A h.chain x hxl with h1 | ⟨z, hz, e2⟩
    · exact hH x y h1 hy e
    · have hzl := (List.dropLast_sublist l).subset hz
      have : z = y := A.hto z (h.sub z hzl) y hy (e2.trans e.symm)
      rw [← this]; exact hzl
def Whole : Prop := ∀ a, a ∈ A.as → ∀ x, x ∈ A.as → conn A a x
theorem count_whole {first : Nat} {l : List Nat} (h : Met A first l) (hc : Closed A (fun x => x ∈ l)) : l.length = A.as.length ↔ Whole A := by
  constructor
  · intro e
    have hp := all_in h.nd h.sub (by omega)
    intro a ha x hx
    have h1 := h.con a (hp a ha)
    have h2 := h.con x (hp x hx)
    exact conn_trans A (conn_symm A h1) h2
  · intro hw
    have h1 : ∀ x, x ∈ A.as → x ∈ l := fun x hx => hw first (h.sub first h.has) x hx (fun z => z ∈ l) h.has hc
    have h2 : A.as.length ≤ l.length := len_le A.nd h1
    have := met_len A h
    omega
def fwd (ne : Int → Option Nat) (to : Nat → Int) (first : Nat) : Nat → Nat → Int → Option (Bool × Nat)
  | 0, _, _ => none
  | k + 1, n, t => match ne t with
    | none => some (false, n)
    | some c => if c = first then some (true, n) else fwd ne to first k (n + 1) (to c)
def bwd (pr : Int → Option Nat) (fr : Nat → Int) : Nat → Nat → Int → Option Nat
  | 0, _, _ => none
  | k + 1, n, t => match pr t with
    | none => some n
    | some c => bwd pr fr k (n + 1) (fr c)
structure Tells (ne pr : Int → Option Nat) : Prop where
  ne_some : ∀ t c, ne t = some c → c ∈ A.as ∧ A.fr c = t
  ne_none : ∀ t, ne t = none → ∀ c, c ∈ A.as → A.fr c ≠ t
  pr_some : ∀ t c, pr t = some c → c ∈ A.as ∧ A.to c = t
  pr_none : ∀ t, pr t = none → ∀ c, c ∈ A.as → A.to c ≠ t
variable {ne pr : Int → Option Nat}
theorem fwd_met (T : Tells A ne pr) {first : Nat} : ∀ (k : Nat) (l : List Nat) (last : Nat), Met A first l → l.head? = some first → l.getLast? = some last → A.as.length < k + l.length →
    ∃ r, fwd ne A.to first k l.length (A.to last) = some r ∧ ((r.1 = true ∧ ∃ l', Met A first l' ∧ l'.length = r.2 ∧ Closed A (fun x => x ∈ l')) ∨ (r.1 = false ∧ ∃ l' last', Met A first l' ∧ l'.head? = some first ∧ l'.getLast? = some last' ∧ l'.length = r.2 ∧ ∀ c, c ∈ A.as → A.to last' ≠ A.fr c)) := by
  intro k
  induction k with
  | zero => intro l last h _ _ hk; have := met_len A h; omega
  | succ k ih =>
    intro l last h hh hl hk
    rw [fwd]
    cases hn : ne (A.to last) with
    | none => exact ⟨_, rfl, .inr ⟨rfl, l, last, h, hh, hl, rfl, fun c hc e => T.ne_none _ hn c hc e.symm⟩⟩
    | some c =>
      obtain ⟨hc, hfc⟩ := T.ne_some _ _ hn
      dsimp only
      by_cases hcf : c = first
      · rw [if_pos hcf]
        refine ⟨_, rfl, .inl ⟨rfl, l, h, rfl, met_closed A h ?_ ?_⟩⟩
        · intro x y hx hy e
          rw [hl] at hx
          have : last = x := Option.some.inj hx
          subst this
          have : y = c := A.hfr y hy c hc (e.symm.trans hfc.symm)
          rw [this, hcf]
          exact h.has
        · intro x y hx hy e
          rw [hh] at hx
          have : first = x := Option.some.inj hx
          subst this
          have hlast : last ∈ l := List.mem_of_getLast? hl
          have : y = last := A.hto y hy last (h.sub last hlast) (by rw [e, ← hfc, hcf])
          rw [this]
          exact hlast
      · rw [if_neg hcf]
        have h2 := met_snoc A h hh hl hc hfc.symm hcf
        have := ih (l ++ [c]) c h2 (by cases l with | nil => cases hh | cons a r => exact hh) (by simp) (by rw [List.length_append]; simp; omega)
        rw [List.length_append] at this
        exact this
theorem bwd_met (T : Tells A ne pr) {first last : Nat} (hend : ∀ c, c ∈ A.as → A.to last ≠ A.fr c) : ∀ (k : Nat) (l : List Nat) (head : Nat), Met A first l → l.head? = some head → l.getLast? = some last → A.as.length < k + l.length →
    ∃ r, bwd pr A.fr k l.length (A.fr head) = some r ∧ ∃ l', Met A first l' ∧ l'.length = r ∧ Closed A (fun x => x ∈ l') := by
  intro k
  induction k with
  | zero => intro l head h _ _ hk; have := met_len A h; omega
  | succ k ih =>
    intro l head h hh hl hk
    rw [bwd]
    cases hn : pr (A.fr head) with
    | none =>
      refine ⟨_, rfl, l, h, rfl, met_closed A h ?_ ?_⟩
      · intro x y hx hy e
        rw [hl] at hx
        have : last = x := Option.some.inj hx
        subst this
        exact absurd e (hend y hy)
      · intro x y hx hy e
        rw [hh] at hx
        have : head = x := Option.some.inj hx
        subst this
        exact absurd e (T.pr_none _ hn y hy)
    | some p =>
      obtain ⟨hp, htp⟩ := T.pr_some _ _ hn
      obtain ⟨h2, hh2, hl2⟩ := met_cons A h hh hl hend hp htp
      exact ih (p :: l) p h2 hh2 hl2 (by rw [List.length_cons]; omega)
def fanN (ne pr : Int → Option Nat) (fr to : Nat → Int) (first k : Nat) : Option Nat :=
  match fwd ne to first k 1 (to first) with
  | none => none
  | some (true, n) => some n
  | some (false, n) => bwd pr fr k n (fr first)
theorem fan_whole (T : Tells A ne pr) {first : Nat} (hf : first ∈ A.as) {k : Nat} (hk : A.as.length < k) : ∃ n, fanN ne pr A.fr A.to first k = some n ∧ (n = A.as.length ↔ Whole A) := by
  obtain ⟨r, hr, h⟩ := fwd_met A T k [first] first (met_one A hf) rfl rfl (by simp; omega)
  unfold fanN
  rw [show ([first] : List Nat).length = 1 from rfl] at hr
  rw [hr]
  rcases h with ⟨h1, l, hm, hl, hc⟩ | ⟨h1, l, last, hm, hh, hl, hlen, hend⟩
  · obtain ⟨b, n⟩ := r
    simp only at h1 hl
    subst h1
    exact ⟨n, rfl, by rw [← hl]; exact count_whole A hm hc⟩
  · obtain ⟨b, n⟩ := r
    simp only at h1 hlen
    subst h1
    obtain ⟨m, hm2, l2, hmet, hl2, hc⟩ := bwd_met A T hend k l first hm hh hl (by omega)
    rw [hlen] at hm2
    exact ⟨m, hm2, by rw [← hl2]; exact count_whole A hmet hc⟩
theorem seen_whole {a0 : Nat} (ha0 : a0 ∈ A.as) (S : Nat → Prop) (h0 : S a0) (hs : ∀ x, x ∈ A.as → S x → conn A a0 x) (hc : Closed A S) : (∀ x, x ∈ A.as → S x) ↔ Whole A := by
  constructor
  · intro h a ha x hx
    exact conn_trans A (conn_symm A (hs a ha (h a ha))) (hs x hx (h x hx))
  · intro h x hx
    exact h a0 ha0 x hx S h0 hc
def has3 (q : (Int × Int × Int)) (v : Int) : Bool := q.1 == v || q.2.1 == v || q.2.2 == v
def plain3 (q : (Int × Int × Int)) : Prop := q.1 ≠ q.2.1 ∧ q.2.1 ≠ q.2.2 ∧ q.2.2 ≠ q.1
def frT (q : (Int × Int × Int)) (v : Int) : Int := if q.1 = v then q.2.1 else if q.2.1 = v then q.2.2 else q.1
def toT (q : (Int × Int × Int)) (v : Int) : Int := if q.1 = v then q.2.2 else if q.2.1 = v then q.1 else q.2.1
def edges3 (q : (Int × Int × Int)) : List (Int × Int) := [(q.1, q.2.1), (q.2.1, q.2.2), (q.2.2, q.1)]
theorem edge_from {q : (Int × Int × Int)} (hp : plain3 q) {v t : Int} : (v, t) ∈ edges3 q ↔ has3 q v = true ∧ frT q v = t := by
  obtain ⟨a, b, c⟩ := q
  obtain ⟨h1, h2, h3⟩ := hp
  simp only at h1 h2 h3
  simp only [edges3, has3, frT, List.mem_cons, List.not_mem_nil, or_false, Prod.mk.injEq, Bool.or_eq_true, beq_iff_eq]
  constructor
  · rintro (⟨rfl, rfl⟩ | ⟨rfl, rfl⟩ | ⟨rfl, rfl⟩)
    · simp
    · simp [h1]
    · simp [h2, h3, Ne.symm h3]
  · rintro ⟨((rfl | rfl) | rfl), h⟩
    · simp at h; simp [h]
    · simp [h1] at h; simp [h]
    · simp [h2, Ne.symm h3] at h; simp [h]
theorem edge_to {q : (Int × Int × Int)} (hp : plain3 q) {v t : Int} : (t, v) ∈ edges3 q ↔ has3 q v = true ∧ toT q v = t := by
  obtain ⟨a, b, c⟩ := q
  obtain ⟨h1, h2, h3⟩ := hp
  simp only at h1 h2 h3
  simp only [edges3, has3, toT, List.mem_cons, List.not_mem_nil, or_false, Prod.mk.injEq, Bool.or_eq_true, beq_iff_eq]
  constructor
  · rintro (⟨rfl, rfl⟩ | ⟨rfl, rfl⟩ | ⟨rfl, rfl⟩)
    · simp [h1]
    · simp [h2, Ne.symm h3]
    · simp
  · rintro ⟨((rfl | rfl) | rfl), h⟩
    · simp at h; simp [h]
    · simp [h1] at h; simp [h]
    · simp [h2, Ne.symm h3] at h; simp [h]
structure Good (tr : Nat → (Int × Int × Int)) (n : Nat) : Prop where
  pl : ∀ i, i < n → plain3 (tr i)
  one : ∀ i, i < n → ∀ j, j < n → ∀ e, e ∈ edges3 (tr i) → e ∈ edges3 (tr j) → i = j
def atV (tr : Nat → (Int × Int × Int)) (n : Nat) (v : Int) : List Nat := (List.range n).filter fun i => has3 (tr i) v
theorem mem_atV {tr : Nat → (Int × Int × Int)} {n : Nat} {v : Int} {i : Nat} : i ∈ atV tr n v ↔ i < n ∧ has3 (tr i) v = true := by
  unfold atV; rw [List.mem_filter, List.mem_range]
def atF {tr : Nat → (Int × Int × Int)} {n : Nat} (g : Good tr n) (v : Int) : At where
  as := atV tr n v
  fr := fun i => frT (tr i) v
  to := fun i => toT (tr i) v
  nd := List.nodup_range.filter _
  hfr := fun a ha b hb e => by
    obtain ⟨h1, h2⟩ := mem_atV.1 ha
    obtain ⟨h3, h4⟩ := mem_atV.1 hb
    exact g.one a h1 b h3 (v, frT (tr a) v) ((edge_from (g.pl a h1)).2 ⟨h2, rfl⟩) ((edge_from (g.pl b h3)).2 ⟨h4, e.symm⟩)
  hto := fun a ha b hb e => by
    obtain ⟨h1, h2⟩ := mem_atV.1 ha
    obtain ⟨h3, h4⟩ := mem_atV.1 hb
    exact g.one a h1 b h3 (toT (tr a) v, v) ((edge_to (g.pl a h1)).2 ⟨h2, rfl⟩) ((edge_to (g.pl b h3)).2 ⟨h4, e.symm⟩)
theorem tells_of {tr : Nat → (Int × Int × Int)} {n : Nat} (g : Good tr n) (v : Int) (look : Int × Int → Option Nat) (h1 : ∀ e i, look e = some i → i < n ∧ e ∈ edges3 (tr i)) (h2 : ∀ e, look e = none → ∀ i, i < n → e ∉ edges3 (tr i)) :
    Tells (atF g v) (fun t => look (v, t)) (fun t => look (t, v)) where
  ne_some := fun t c h => by
    obtain ⟨h3, h4⟩ := h1 _ _ h
    obtain ⟨h5, h6⟩ := (edge_from (g.pl c h3)).1 h4
    exact ⟨mem_atV.2 ⟨h3, h5⟩, h6⟩
  ne_none := fun t h c hc e => by
    obtain ⟨h3, h4⟩ := mem_atV.1 hc
    exact h2 _ h c h3 ((edge_from (g.pl c h3)).2 ⟨h4, e⟩)
  pr_some := fun t c h => by
    obtain ⟨h3, h4⟩ := h1 _ _ h
    obtain ⟨h5, h6⟩ := (edge_to (g.pl c h3)).1 h4
    exact ⟨mem_atV.2 ⟨h3, h5⟩, h6⟩
  pr_none := fun t h c hc e => by
    obtain ⟨h3, h4⟩ := mem_atV.1 hc
    exact h2 _ h c h3 ((edge_to (g.pl c h3)).2 ⟨h4, e⟩)
theorem after_to {q : (Int × Int × Int)} (hp : plain3 q) {v : Int} (hv : has3 q v = true) : q.1 + q.2.1 + q.2.2 - v - frT q v = toT q v ∧ q.1 + q.2.1 + q.2.2 - toT q v - v = frT q v := by
  obtain ⟨a, b, c⟩ := q
  obtain ⟨h1, h2, h3⟩ := hp
  simp only [has3, Bool.or_eq_true, beq_iff_eq] at hv
  simp only at h1 h2 h3
  simp only [frT, toT]
  by_cases ha : a = v
  · rw [if_pos ha, if_pos ha]; omega
  · by_cases hb : b = v
    · rw [if_neg ha, if_pos hb, if_neg ha, if_pos hb]; omega
    · rw [if_neg ha, if_neg hb, if_neg ha, if_neg hb]; omega
end Go.Proofs.YtomknjmgcbbjlaaDoor.Fan
