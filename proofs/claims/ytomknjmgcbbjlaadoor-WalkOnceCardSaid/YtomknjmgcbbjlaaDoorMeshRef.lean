import Derived.Test.YtomknjmgcbbjlaaDoorPWlkx9
import Derived.Test.YtomknjmgcbbjlaaDoorPWlkx5
import Derived.Test.YtomknjmgcbbjlaaDoorMeshFan
namespace Go.Proofs.YtomknjmgcbbjlaaDoor.MR
open Go Go.RowKit Go.Proofs.YtomknjmgcbbjlaaDoor.PWlk Go.Proofs.YtomknjmgcbbjlaaDoorW.PrintWords Go.Proofs.YtomknjmgcbbjlaaDoor.MM
set_option linter.unusedVariables false
set_option maxRecDepth 100000
set_option linter.unusedSimpArgs false
def EvB (f : Nat → Option Bool) (R : Prop) : Prop := ∃ r, Ev f r ∧ (r = true ↔ R)
section
variable {f g : Nat → Option Bool} {R R' : Prop}
theorem EvB.now {b : Bool} (h : b = true ↔ R) : EvB (fun _ => some b) R := ⟨b, Ev.now _, h⟩
theorem EvB.step (hs : ∀ k, f (k + 1) = g k) (h : EvB g R) : EvB f R := by obtain ⟨r, h1, h2⟩ := h; exact ⟨r, Ev.step hs h1, h2⟩
theorem EvB.congr (hs : ∀ k, f k = g k) (h : EvB g R) : EvB f R := by obtain ⟨r, h1, h2⟩ := h; exact ⟨r, Ev.congr hs h1, h2⟩
theorem EvB.iff (hr : R ↔ R') (h : EvB f R) : EvB f R' := by obtain ⟨r, h1, h2⟩ := h; exact ⟨r, h1, h2.trans hr⟩
theorem EvB.no {c : Prop} [Decidable c] (h : ¬ c → EvB f R) : EvB (fun k => if c then some false else f k) (¬ c ∧ R) := by
  by_cases hc : c
  · exact ⟨false, Ev.congr (fun k => by rw [if_pos hc]) (Ev.now _), by simp [hc]⟩
  · obtain ⟨r, h1, h2⟩ := h hc; exact ⟨r, Ev.congr (fun k => by rw [if_neg hc]) h1, by simp [hc, h2]⟩
theorem EvB.yes {c : Prop} [Decidable c] (h : c → EvB f R) : EvB (fun k => if c then f k else some false) (c ∧ R) := by
  by_cases hc : c
  · obtain ⟨r, h1, h2⟩ := h hc; exact ⟨r, Ev.congr (fun k => by rw [if_pos hc]) h1, by simp [hc, h2]⟩
  · exact ⟨false, Ev.congr (fun k => by rw [if_neg hc]) (Ev.now _), by simp [hc]⟩
end
theorem u0 : wrap64 ((0 : Int) + 1) = 1 := by unfold wrap64; omega
theorem u1 : wrap64 ((1 : Int) + 1) = 2 := by unfold wrap64; omega
theorem u2 : wrap64 ((2 : Int) + 1) = 3 := by unfold wrap64; omega
theorem w1 {i : Nat} (h : i < 4611686018427387904) : wrap64 ((i : Int) + 1) = ((i + 1 : Nat) : Int) := by unfold wrap64; omega
def CoOk (a : Int) : Prop := -2147483648 ≤ a ∧ a ≤ 2147483647
def PtOk (p : S46) : Prop := CoOk p.f0 ∧ CoOk p.f1 ∧ CoOk p.f2
def TriOk (n : Nat) (q : S47) : Prop := ((0 ≤ q.f0 ∧ q.f0 < n) ∧ (0 ≤ q.f1 ∧ q.f1 < n) ∧ (0 ≤ q.f2 ∧ q.f2 < n)) ∧ q.f0 ≠ q.f1 ∧ q.f1 ≠ q.f2 ∧ q.f2 ≠ q.f0
def Plain (l0 : List S46) (l1 : List S47) : Prop := (∀ i, i < l0.length → PtOk (l0.getD i z46)) ∧ ∀ i, i < l1.length → TriOk l0.length (l1.getD i z47)
theorem mcoord (a : Int) : ∃ b, mesh_coord.f a = some b ∧ (b = true ↔ CoOk a) := by
  unfold mesh_coord.f CoOk
  by_cases h : a ≥ -2147483648
  · exact ⟨_, by rw [if_pos h], by simp; omega⟩
  · exact ⟨_, by rw [if_neg h], by simp; omega⟩
theorem rcoord (a : Int) : ∃ b, lapidaryref10_coord.f a = some b ∧ (b = true ↔ CoOk a) := by
  unfold lapidaryref10_coord.f CoOk
  by_cases h : a ≥ -2147483648
  · exact ⟨_, by rw [if_pos h], by simp; omega⟩
  · exact ⟨_, by rw [if_neg h], by simp; omega⟩
theorem rd45 (l : List S46) (i : Nat) : rd_T46 l (i : Int) = l.getD i z46 := by unfold rd_T46; rw [Int.toNat_natCast]
theorem rd57 (l : List S47) (i : Nat) : rd_T47 l (i : Int) = l.getD i z47 := by unfold rd_T47; rw [Int.toNat_natCast]
theorem bindB {b : Bool} {c : Prop} {o : Option Bool} (ho : o = some b) (hb : b = true ↔ c) {R : Prop} {f : Nat → Option Bool} (h : c → EvB f R) : EvB (fun k => o.bind fun t => if t = true then f k else some false) (c ∧ R) := by
  by_cases hc : c
  · obtain ⟨r, h1, h2⟩ := h hc
    exact ⟨r, Ev.congr (fun k => by rw [ho, Option.bind_some, if_pos (hb.2 hc)]) h1, by simp [hc, h2]⟩
  · exact ⟨false, Ev.congr (fun k => by rw [ho, Option.bind_some, if_neg (fun h => hc (hb.1 h))]) (Ev.now _), by simp [hc]⟩
theorem mp2 (T : List S47) (P : List S46) (n i a b c : Int) (R : Prop) (h : EvB (fun k => mesh_plain.l1 k T n (wrap64 (i + 1)) P T) R) :
    EvB (fun k => mesh_plain.l2 k T n i 0 a b c P T a b c) (TriOk P.length ⟨a, b, c⟩ ∧ R) := by
  have h3 : EvB (fun k => mesh_plain.l2 k T n i 3 a b c P T a b c) R := EvB.step (fun k => by rw [mesh_plain.l2, if_neg (by decide)]) h
  have h2 : EvB (fun k => mesh_plain.l2 k T n i 2 a b c P T a b c) _ := EvB.step (fun k => by rw [mesh_plain.l2, if_pos (by decide), if_neg (by decide), if_neg (by decide), if_pos rfl, u2]) (EvB.no (c := c < 0) fun _ => EvB.no (c := c ≥ (P.length : Int)) fun _ => EvB.no (c := c = a) fun _ => h3)
  have h1 : EvB (fun k => mesh_plain.l2 k T n i 1 a b c P T a b c) _ := EvB.step (fun k => by rw [mesh_plain.l2, if_pos (by decide), if_neg (by decide), if_pos rfl, u1]) (EvB.no (c := b < 0) fun _ => EvB.no (c := b ≥ (P.length : Int)) fun _ => EvB.no (c := b = c) fun _ => h2)
  have h0 : EvB (fun k => mesh_plain.l2 k T n i 0 a b c P T a b c) _ := EvB.step (fun k => by rw [mesh_plain.l2, if_pos (by decide), if_pos rfl, u0]) (EvB.no (c := a < 0) fun _ => EvB.no (c := a ≥ (P.length : Int)) fun _ => EvB.no (c := a = b) fun _ => h1)
  refine h0.iff ?_
  unfold TriOk
  dsimp only
  constructor
  · rintro ⟨x1, x2, x3, x4, x5, x6, x7, x8, x9, hR⟩
    exact ⟨⟨⟨by omega, by omega, by omega⟩, by omega, by omega, by omega⟩, hR⟩
  · rintro ⟨⟨⟨x1, x2, x3⟩, x4, x5, x6⟩, hR⟩
    exact ⟨by omega, by omega, by omega, by omega, by omega, by omega, by omega, by omega, by omega, hR⟩
theorem mp1 (P : List S46) (T : List S47) (hT : T.length ≤ 1000000) : ∀ d i : Nat, i + d = T.length → EvB (fun k => mesh_plain.l1 k T (T.length : Int) (i : Int) P T) (∀ j, i ≤ j → j < T.length → TriOk P.length (T.getD j z47)) := by
  intro d
  induction d with
  | zero =>
    intro i hi
    refine EvB.step (g := fun _ => some true) (fun k => by rw [mesh_plain.l1, if_neg (by omega)]) (EvB.now ?_)
    simp only [true_iff]
    intro j h1 h2; omega
  | succ d ih =>
    intro i hi
    have h := mp2 T P (T.length : Int) i (T.getD i z47).f0 (T.getD i z47).f1 (T.getD i z47).f2 _ (by rw [w1 (by omega)]; exact ih (i + 1) (by omega))
    refine EvB.iff ?_ (EvB.step (fun k => by rw [mesh_plain.l1, if_pos (by omega), if_pos (by omega), if_pos (by omega), rd57]) h)
    constructor
    · rintro ⟨h1, h2⟩ j hj hj2
      by_cases he : j = i
      · subst he; exact h1
      · exact h2 j (by omega) hj2
    · intro h1
      exact ⟨h1 i (Nat.le_refl _) (by omega), fun j hj hj2 => h1 j (by omega) hj2⟩
theorem mp0 (P : List S46) (T : List S47) (hP : P.length ≤ 1000000) (hT : T.length ≤ 1000000) : ∀ d i : Nat, i + d = P.length → EvB (fun k => mesh_plain.l0 k P (P.length : Int) (i : Int) P T) ((∀ j, i ≤ j → j < P.length → PtOk (P.getD j z46)) ∧ ∀ j, j < T.length → TriOk P.length (T.getD j z47)) := by
  intro d
  induction d with
  | zero =>
    intro i hi
    refine EvB.iff ?_ (EvB.step (fun k => by rw [mesh_plain.l0, if_neg (by omega)]; rfl) (mp1 P T hT T.length 0 (by omega)))
    exact ⟨fun h => ⟨fun j h1 h2 => by omega, fun j hj => h j (Nat.zero_le _) hj⟩, fun h j _ hj => h.2 j hj⟩
  | succ d ih =>
    intro i hi
    obtain ⟨b0, e0, f0⟩ := mcoord (P.getD i z46).f0
    obtain ⟨b1, e1, f1⟩ := mcoord (P.getD i z46).f1
    obtain ⟨b2, e2, f2⟩ := mcoord (P.getD i z46).f2
    have h := bindB e0 f0 fun _ => bindB e1 f1 fun _ => bindB e2 f2 fun _ => ih (i + 1) (by omega)
    refine EvB.iff ?_ (EvB.step (fun k => by rw [mesh_plain.l0, if_pos (by omega), if_pos (by omega), if_pos (by omega), rd45, w1 (by omega)]) h)
    constructor
    · rintro ⟨h1, h2, h3, h4, h5⟩
      refine ⟨fun j hj hj2 => ?_, h5⟩
      by_cases he : j = i
      · subst he; exact ⟨h1, h2, h3⟩
      · exact h4 j (by omega) hj2
    · rintro ⟨h1, h2⟩
      obtain ⟨a1, a2, a3⟩ := h1 i (Nat.le_refl _) (by omega)
      exact ⟨a1, a2, a3, fun j hj hj2 => h1 j (by omega) hj2, h2⟩
theorem mplain (P : List S46) (T : List S47) (hP : P.length ≤ 1000000) (hT : T.length ≤ 1000000) : EvB (fun k => mesh_plain.f k P T) (Plain P T) := by
  refine EvB.iff ?_ (EvB.congr (fun k => rfl) (mp0 P T hP hT P.length 0 (by omega)))
  exact ⟨fun h => ⟨fun j hj => h.1 j (Nat.zero_le _) hj, h.2⟩, fun h => ⟨fun j _ hj => h.1 j hj, h.2⟩⟩
theorem rp2 (T : List S47) (P : List S46) (i a b c : Int) (R : Prop) (h : EvB (fun k => lapidaryref10_plain.l1 k (wrap64 (i + 1)) P T) R) :
    EvB (fun k => lapidaryref10_plain.l2 k i 0 P T a b c) (((0 ≤ a ∧ a < P.length) ∧ (0 ≤ b ∧ b < P.length) ∧ (0 ≤ c ∧ c < P.length)) ∧ R) := by
  have h3 : EvB (fun k => lapidaryref10_plain.l2 k i 3 P T a b c) R := EvB.step (fun k => by rw [lapidaryref10_plain.l2, if_neg (by decide)]) h
  have h2 : EvB (fun k => lapidaryref10_plain.l2 k i 2 P T a b c) _ := EvB.step (fun k => by rw [lapidaryref10_plain.l2, if_pos (by decide), if_neg (by decide), if_neg (by decide), if_pos rfl, u2]) (EvB.no (c := c < 0) fun _ => EvB.no (c := c ≥ (P.length : Int)) fun _ => h3)
  have h1 : EvB (fun k => lapidaryref10_plain.l2 k i 1 P T a b c) _ := EvB.step (fun k => by rw [lapidaryref10_plain.l2, if_pos (by decide), if_neg (by decide), if_pos rfl, u1]) (EvB.no (c := b < 0) fun _ => EvB.no (c := b ≥ (P.length : Int)) fun _ => h2)
  have h0 : EvB (fun k => lapidaryref10_plain.l2 k i 0 P T a b c) _ := EvB.step (fun k => by rw [lapidaryref10_plain.l2, if_pos (by decide), if_pos rfl, u0]) (EvB.no (c := a < 0) fun _ => EvB.no (c := a ≥ (P.length : Int)) fun _ => h1)
  refine h0.iff ?_
  constructor
  · rintro ⟨x1, x2, x3, x4, x5, x6, hR⟩
    exact ⟨⟨by omega, by omega, by omega⟩, hR⟩
  · rintro ⟨⟨x1, x2, x3⟩, hR⟩
    exact ⟨by omega, by omega, by omega, by omega, by omega, by omega, hR⟩
theorem rpj (T : List S47) (P : List S46) (i a b c : Int) (R : Prop) (h : EvB (fun k => lapidaryref10_plain.l1 k (wrap64 (i + 1)) P T) R) :
    EvB (fun k => if a = b then lapidaryref10_plain.j2 k i true P T a b c else (if b = c then lapidaryref10_plain.j2 k i true P T a b c else lapidaryref10_plain.j2 k i (c == a) P T a b c)) (TriOk P.length ⟨a, b, c⟩ ∧ R) := by
  have ht : EvB (fun k => lapidaryref10_plain.j2 k i true P T a b c) False := EvB.step (g := fun _ => some false) (fun k => by rw [lapidaryref10_plain.j2, if_pos rfl]) (EvB.now (by simp))
  have hf := rp2 T P i a b c R h
  by_cases c1 : a = b
  · refine EvB.iff ?_ (EvB.congr (fun k => by rw [if_pos c1]) ht)
    exact ⟨False.elim, fun h => absurd c1 h.1.2.1⟩
  · by_cases c2 : b = c
    · refine EvB.iff ?_ (EvB.congr (fun k => by rw [if_neg c1, if_pos c2]) ht)
      exact ⟨False.elim, fun h => absurd c2 h.1.2.2.1⟩
    · by_cases c3 : c = a
      · refine EvB.iff ?_ (EvB.congr (fun k => by rw [if_neg c1, if_neg c2, beq_iff_eq.2 c3]) ht)
        exact ⟨False.elim, fun h => absurd c3 h.1.2.2.2⟩
      · refine EvB.iff ?_ (EvB.congr (fun k => by rw [if_neg c1, if_neg c2, beq_eq_false_iff_ne.2 c3]) (EvB.step (fun k => by rw [lapidaryref10_plain.j2, if_neg (by decide)]) hf))
        exact ⟨fun h => ⟨⟨h.1, c1, c2, c3⟩, h.2⟩, fun h => ⟨h.1.1, h.2⟩⟩
theorem rp1 (P : List S46) (T : List S47) (hT : T.length ≤ 1000000) : ∀ d i : Nat, i + d = T.length → EvB (fun k => lapidaryref10_plain.l1 k (i : Int) P T) (∀ j, i ≤ j → j < T.length → TriOk P.length (T.getD j z47)) := by
  intro d
  induction d with
  | zero =>
    intro i hi
    refine EvB.step (g := fun _ => some true) (fun k => by rw [lapidaryref10_plain.l1, if_neg (by omega)]) (EvB.now ?_)
    simp only [true_iff]
    intro j h1 h2; omega
  | succ d ih =>
    intro i hi
    have h := rpj T P i (T.getD i z47).f0 (T.getD i z47).f1 (T.getD i z47).f2 _ (by rw [w1 (by omega)]; exact ih (i + 1) (by omega))
    refine EvB.iff ?_ (EvB.step (fun k => by rw [lapidaryref10_plain.l1, if_pos (by omega), if_pos (by omega), rd57]) h)
    constructor
    · rintro ⟨h1, h2⟩ j hj hj2
      by_cases he : j = i
      · subst he; exact h1
      · exact h2 j (by omega) hj2
    · intro h1
      exact ⟨h1 i (Nat.le_refl _) (by omega), fun j hj hj2 => h1 j (by omega) hj2⟩
theorem rp0 (P : List S46) (T : List S47) (hP : P.length ≤ 1000000) (hT : T.length ≤ 1000000) : ∀ d i : Nat, i + d = P.length → EvB (fun k => lapidaryref10_plain.l0 k (i : Int) P T) ((∀ j, i ≤ j → j < P.length → PtOk (P.getD j z46)) ∧ ∀ j, j < T.length → TriOk P.length (T.getD j z47)) := by
  intro d
  induction d with
  | zero =>
    intro i hi
    refine EvB.iff ?_ (EvB.step (fun k => by rw [lapidaryref10_plain.l0, if_neg (by omega)]; rfl) (rp1 P T hT T.length 0 (by omega)))
    exact ⟨fun h => ⟨fun j h1 h2 => by omega, fun j hj => h j (Nat.zero_le _) hj⟩, fun h j _ hj => h.2 j hj⟩
  | succ d ih =>
    intro i hi
    obtain ⟨b0, e0, f0⟩ := rcoord (P.getD i z46).f0
    obtain ⟨b1, e1, f1⟩ := rcoord (P.getD i z46).f1
    obtain ⟨b2, e2, f2⟩ := rcoord (P.getD i z46).f2
    have h := bindB e0 f0 fun _ => bindB e1 f1 fun _ => bindB e2 f2 fun _ => ih (i + 1) (by omega)
    refine EvB.iff ?_ (EvB.step (fun k => by rw [lapidaryref10_plain.l0, if_pos (by omega), if_pos (by omega), rd45, w1 (by omega)]) h)
    constructor
    · rintro ⟨h1, h2, h3, h4, h5⟩
      refine ⟨fun j hj hj2 => ?_, h5⟩
      by_cases he : j = i
      · subst he; exact ⟨h1, h2, h3⟩
      · exact h4 j (by omega) hj2
    · rintro ⟨h1, h2⟩
      obtain ⟨a1, a2, a3⟩ := h1 i (Nat.le_refl _) (by omega)
      exact ⟨a1, a2, a3, fun j hj hj2 => h1 j (by omega) hj2, h2⟩
theorem rplain (P : List S46) (T : List S47) (hP : P.length ≤ 1000000) (hT : T.length ≤ 1000000) : EvB (fun k => lapidaryref10_plain.f k P T) (Plain P T) := by
  refine EvB.iff ?_ (EvB.congr (fun k => rfl) (rp0 P T hP hT P.length 0 (by omega)))
  exact ⟨fun h => ⟨fun j hj => h.1 j (Nat.zero_le _) hj, h.2⟩, fun h => ⟨fun j _ hj => h.1 j hj, h.2⟩⟩
def EvP {α : Type} (f : Nat → Option α) (P : α → Prop) : Prop := ∃ r, Ev f r ∧ P r
section
variable {α : Type} {f g : Nat → Option α} {P Q : α → Prop}
theorem EvP.step (hs : ∀ k, f (k + 1) = g k) (h : EvP g P) : EvP f P := by obtain ⟨r, h1, h2⟩ := h; exact ⟨r, Ev.step hs h1, h2⟩
theorem EvP.congr (hs : ∀ k, f k = g k) (h : EvP g P) : EvP f P := by obtain ⟨r, h1, h2⟩ := h; exact ⟨r, Ev.congr hs h1, h2⟩
theorem EvP.imp (hp : ∀ r, P r → Q r) (h : EvP f P) : EvP f Q := by obtain ⟨r, h1, h2⟩ := h; exact ⟨r, h1, hp r h2⟩
theorem EvP.now {r : α} (h : P r) : EvP (fun _ => some r) P := ⟨r, Ev.now _, h⟩
theorem EvP.two {c d : Prop} [Decidable c] [Decidable d] {x : α} (h1 : c → d → P x) (h2 : ¬ (c ∧ d) → EvP f P) : EvP (fun k => if c then (if d then some x else f k) else f k) P := by
  by_cases hc : c
  · by_cases hd : d
    · exact ⟨x, Ev.congr (fun k => by rw [if_pos hc, if_pos hd]) (Ev.now _), h1 hc hd⟩
    · exact EvP.congr (fun k => by rw [if_pos hc, if_neg hd]) (h2 (fun h => hd h.2))
  · exact EvP.congr (fun k => by rw [if_neg hc]) (h2 (fun h => hc h.1))
end
def FromI (T : List S47) (e : Int × Int) (i : Nat) (r : Int) : Prop :=
  (r = -1 ∧ ∀ j, i ≤ j → j < T.length → e ∉ Fan.edges3 (trs T j)) ∨ ∃ m : Nat, r = m ∧ i ≤ m ∧ m < T.length ∧ e ∈ Fan.edges3 (trs T m) ∧ ∀ j, i ≤ j → j < m → e ∉ Fan.edges3 (trs T j)
theorem edges_iff (q : S47) (a b : Int) : (a, b) ∈ Fan.edges3 (trT q) ↔ (q.f0 = a ∧ q.f1 = b) ∨ (q.f1 = a ∧ q.f2 = b) ∨ (q.f2 = a ∧ q.f0 = b) := by
  unfold Fan.edges3 trT
  simp only [List.mem_cons, List.not_mem_nil, or_false, Prod.mk.injEq]
  constructor <;> rintro (h | h | h) <;> omega
theorem has1 (T : List S47) (a b : Int) (i : Nat) (hi : i < T.length) (P : Int → Prop) (hyes : (a, b) ∈ Fan.edges3 (trs T i) → P i) (h : (a, b) ∉ Fan.edges3 (trs T i) → EvP (fun k => lapidaryref10_Has.l0 k T a b (wrap64 ((i : Int) + 1))) P) :
    EvP (fun k => lapidaryref10_Has.l1 k T a b (i : Int) 0) P := by
  have he := edges_iff (T.getD i z47) a b
  have he2 : (a, b) ∈ Fan.edges3 (trs T i) ↔ _ := he
  rw [he2] at hyes h
  have h3 : (¬ ((T.getD i z47).f0 = a ∧ (T.getD i z47).f1 = b)) → (¬ ((T.getD i z47).f1 = a ∧ (T.getD i z47).f2 = b)) → (¬ ((T.getD i z47).f2 = a ∧ (T.getD i z47).f0 = b)) → EvP (fun k => lapidaryref10_Has.l1 k T a b (i : Int) 3) P := fun n0 n1 n2 =>
    EvP.step (fun k => by rw [lapidaryref10_Has.l1, if_neg (by decide)]) (h (by rintro (x | x | x); exact n0 x; exact n1 x; exact n2 x))
  have h2 : (¬ ((T.getD i z47).f0 = a ∧ (T.getD i z47).f1 = b)) → (¬ ((T.getD i z47).f1 = a ∧ (T.getD i z47).f2 = b)) → EvP (fun k => lapidaryref10_Has.l1 k T a b (i : Int) 2) P := fun n0 n1 =>
    EvP.step (fun k => by rw [lapidaryref10_Has.l1, if_pos (by decide), if_pos (by omega), if_pos (by omega), if_neg (by decide), if_neg (by decide), if_pos rfl, u2, rd57]) (EvP.two (c := (T.getD i z47).f2 = a) (d := (T.getD i z47).f0 = b) (fun x y => hyes (.inr (.inr ⟨x, y⟩))) fun n2 => h3 n0 n1 n2)
  have h1 : (¬ ((T.getD i z47).f0 = a ∧ (T.getD i z47).f1 = b)) → EvP (fun k => lapidaryref10_Has.l1 k T a b (i : Int) 1) P := fun n0 =>
    EvP.step (fun k => by rw [lapidaryref10_Has.l1, if_pos (by decide), if_pos (by omega), if_pos (by omega), if_neg (by decide), if_pos rfl, u1, rd57]) (EvP.two (c := (T.getD i z47).f1 = a) (d := (T.getD i z47).f2 = b) (fun x y => hyes (.inr (.inl ⟨x, y⟩))) fun n1 => h2 n0 n1)
  exact EvP.step (fun k => by rw [lapidaryref10_Has.l1, if_pos (by decide), if_pos (by omega), if_pos (by omega), if_pos rfl, u0, rd57]) (EvP.two (c := (T.getD i z47).f0 = a) (d := (T.getD i z47).f1 = b) (fun x y => hyes (.inl ⟨x, y⟩)) fun n0 => h1 n0)
theorem has0 (T : List S47) (a b : Int) (hT : T.length ≤ 1000000) : ∀ d i : Nat, i + d = T.length → EvP (fun k => lapidaryref10_Has.l0 k T a b (i : Int)) (FromI T (a, b) i) := by
  intro d
  induction d with
  | zero =>
    intro i hi
    exact EvP.step (g := fun _ => some (-1)) (fun k => by rw [lapidaryref10_Has.l0, if_neg (by omega)]) (EvP.now (.inl ⟨rfl, fun j h1 h2 => by omega⟩))
  | succ d ih =>
    intro i hi
    refine EvP.step (fun k => by rw [lapidaryref10_Has.l0, if_pos (by omega)]) (has1 T a b i (by omega) _ (fun h => .inr ⟨i, rfl, Nat.le_refl _, by omega, h, fun j h1 h2 => by omega⟩) fun hn => ?_)
    rw [w1 (by omega)]
    refine EvP.imp ?_ (ih (i + 1) (by omega))
    rintro r (⟨h1, h2⟩ | ⟨m, h1, h2, h3, h4, h5⟩)
    · refine .inl ⟨h1, fun j hj hj2 => ?_⟩
      by_cases he : j = i
      · subst he; exact hn
      · exact h2 j (by omega) hj2
    · refine .inr ⟨m, h1, by omega, h3, h4, fun j hj hj2 => ?_⟩
      by_cases he : j = i
      · subst he; exact hn
      · exact h5 j (by omega) hj2
theorem has_ev (T : List S47) (a b : Int) (hT : T.length ≤ 1000000) : EvP (fun k => lapidaryref10_Has.f k T a b) (FromI T (a, b) 0) := EvP.congr (fun k => rfl) (has0 T a b hT T.length 0 (by omega))
end Go.Proofs.YtomknjmgcbbjlaaDoor.MR
namespace Go.Proofs.YtomknjmgcbbjlaaDoor.MR
open Go Go.RowKit Go.Proofs.YtomknjmgcbbjlaaDoor.PWlk Go.Proofs.YtomknjmgcbbjlaaDoorW.PrintWords Go.Proofs.YtomknjmgcbbjlaaDoor.MM
set_option linter.unusedVariables false
set_option maxRecDepth 100000
set_option linter.unusedSimpArgs false
theorem EvB.join {f : Nat → Option Bool} {R : Prop} {c1 c2 d1 d2 : Prop} [Decidable c1] [Decidable c2] [Decidable d1] [Decidable d2] (h : EvB f R) :
    EvB (fun k => if c1 then (if d1 then (if d2 then some true else f k) else f k) else (if c2 then (if d1 then (if d2 then some true else f k) else f k) else f k)) (((c1 ∨ c2) ∧ d1 ∧ d2) ∨ R) := by
  by_cases hd : d1 ∧ d2
  · by_cases hc : c1 ∨ c2
    · refine ⟨true, Ev.congr (fun k => ?_) (Ev.now _), by simp [hc, hd.1, hd.2]⟩
      by_cases h1 : c1
      · rw [if_pos h1, if_pos hd.1, if_pos hd.2]
      · rw [if_neg h1, if_pos (hc.resolve_left h1), if_pos hd.1, if_pos hd.2]
    · refine EvB.iff ⟨.inr, fun x => x.resolve_left (fun y => hc y.1)⟩ (EvB.congr (fun k => ?_) h)
      rw [if_neg (fun x => hc (.inl x)), if_neg (fun x => hc (.inr x))]
  · refine EvB.iff ⟨.inr, fun x => x.resolve_left (fun y => hd y.2)⟩ (EvB.congr (fun k => ?_) h)
    have h0 : (if d1 then (if d2 then some true else f k) else f k) = f k := by
      by_cases h1 : d1
      · rw [if_pos h1, if_neg (fun x => hd ⟨h1, x⟩)]
      · rw [if_neg h1]
    rw [h0]
    by_cases h1 : c1
    · rw [if_pos h1]
    · rw [if_neg h1]
      by_cases h2 : c2
      · rw [if_pos h2]
      · rw [if_neg h2]
theorem joined_ev (a0 a1 a2 b0 b1 b2 v : Int) : EvB (fun k => lapidaryref10_joined.f k a0 a1 a2 b0 b1 b2 v) (∃ p q, (p, q) ∈ Fan.edges3 (a0, a1, a2) ∧ (p = v ∨ q = v) ∧ (q, p) ∈ Fan.edges3 (b0, b1, b2)) := by
  have e3 : EvB (fun k => lapidaryref10_joined.l0 k v 3 a0 a1 a2 b0 b1 b2) False := EvB.step (g := fun _ => some false) (fun k => by rw [lapidaryref10_joined.l0, if_neg (by decide)]) (EvB.now (by simp))
  have g23 : EvB (fun k => lapidaryref10_joined.l1 k v 2 3 a0 a1 a2 b0 b1 b2) _ := EvB.step (fun k => by simp only [lapidaryref10_joined.l1, Int.reduceLT, Int.reduceEq, reduceCtorEq, ↓reduceIte, u0, u1, u2]) e3
  have g22 : EvB (fun k => lapidaryref10_joined.l1 k v 2 2 a0 a1 a2 b0 b1 b2) _ := EvB.step (fun k => by simp only [lapidaryref10_joined.l1, Int.reduceLT, Int.reduceEq, reduceCtorEq, ↓reduceIte, u0, u1, u2]) (EvB.join (c1 := a2 = v) (c2 := a0 = v) (d1 := b2 = a0) (d2 := b0 = a2) g23)
  have g21 : EvB (fun k => lapidaryref10_joined.l1 k v 2 1 a0 a1 a2 b0 b1 b2) _ := EvB.step (fun k => by simp only [lapidaryref10_joined.l1, Int.reduceLT, Int.reduceEq, reduceCtorEq, ↓reduceIte, u0, u1, u2]) (EvB.join (c1 := a2 = v) (c2 := a0 = v) (d1 := b1 = a0) (d2 := b2 = a2) g22)
  have g20 : EvB (fun k => lapidaryref10_joined.l1 k v 2 0 a0 a1 a2 b0 b1 b2) _ := EvB.step (fun k => by simp only [lapidaryref10_joined.l1, Int.reduceLT, Int.reduceEq, reduceCtorEq, ↓reduceIte, u0, u1, u2]) (EvB.join (c1 := a2 = v) (c2 := a0 = v) (d1 := b0 = a0) (d2 := b1 = a2) g21)
  have e2 : EvB (fun k => lapidaryref10_joined.l0 k v 2 a0 a1 a2 b0 b1 b2) _ := EvB.step (fun k => by rw [lapidaryref10_joined.l0, if_pos (by decide)]) g20
  have g13 : EvB (fun k => lapidaryref10_joined.l1 k v 1 3 a0 a1 a2 b0 b1 b2) _ := EvB.step (fun k => by simp only [lapidaryref10_joined.l1, Int.reduceLT, Int.reduceEq, reduceCtorEq, ↓reduceIte, u0, u1, u2]) e2
  have g12 : EvB (fun k => lapidaryref10_joined.l1 k v 1 2 a0 a1 a2 b0 b1 b2) _ := EvB.step (fun k => by simp only [lapidaryref10_joined.l1, Int.reduceLT, Int.reduceEq, reduceCtorEq, ↓reduceIte, u0, u1, u2]) (EvB.join (c1 := a1 = v) (c2 := a2 = v) (d1 := b2 = a2) (d2 := b0 = a1) g13)
  have g11 : EvB (fun k => lapidaryref10_joined.l1 k v 1 1 a0 a1 a2 b0 b1 b2) _ := EvB.step (fun k => by simp only [lapidaryref10_joined.l1, Int.reduceLT, Int.reduceEq, reduceCtorEq, ↓reduceIte, u0, u1, u2]) (EvB.join (c1 := a1 = v) (c2 := a2 = v) (d1 := b1 = a2) (d2 := b2 = a1) g12)
  have g10 : EvB (fun k => lapidaryref10_joined.l1 k v 1 0 a0 a1 a2 b0 b1 b2) _ := EvB.step (fun k => by simp only [lapidaryref10_joined.l1, Int.reduceLT, Int.reduceEq, reduceCtorEq, ↓reduceIte, u0, u1, u2]) (EvB.join (c1 := a1 = v) (c2 := a2 = v) (d1 := b0 = a2) (d2 := b1 = a1) g11)
  have e1 : EvB (fun k => lapidaryref10_joined.l0 k v 1 a0 a1 a2 b0 b1 b2) _ := EvB.step (fun k => by rw [lapidaryref10_joined.l0, if_pos (by decide)]) g10
  have g03 : EvB (fun k => lapidaryref10_joined.l1 k v 0 3 a0 a1 a2 b0 b1 b2) _ := EvB.step (fun k => by simp only [lapidaryref10_joined.l1, Int.reduceLT, Int.reduceEq, reduceCtorEq, ↓reduceIte, u0, u1, u2]) e1
  have g02 : EvB (fun k => lapidaryref10_joined.l1 k v 0 2 a0 a1 a2 b0 b1 b2) _ := EvB.step (fun k => by simp only [lapidaryref10_joined.l1, Int.reduceLT, Int.reduceEq, reduceCtorEq, ↓reduceIte, u0, u1, u2]) (EvB.join (c1 := a0 = v) (c2 := a1 = v) (d1 := b2 = a1) (d2 := b0 = a0) g03)
  have g01 : EvB (fun k => lapidaryref10_joined.l1 k v 0 1 a0 a1 a2 b0 b1 b2) _ := EvB.step (fun k => by simp only [lapidaryref10_joined.l1, Int.reduceLT, Int.reduceEq, reduceCtorEq, ↓reduceIte, u0, u1, u2]) (EvB.join (c1 := a0 = v) (c2 := a1 = v) (d1 := b1 = a1) (d2 := b2 = a0) g02)
  have g00 : EvB (fun k => lapidaryref10_joined.l1 k v 0 0 a0 a1 a2 b0 b1 b2) _ := EvB.step (fun k => by simp only [lapidaryref10_joined.l1, Int.reduceLT, Int.reduceEq, reduceCtorEq, ↓reduceIte, u0, u1, u2]) (EvB.join (c1 := a0 = v) (c2 := a1 = v) (d1 := b0 = a1) (d2 := b1 = a0) g01)
  have e0 : EvB (fun k => lapidaryref10_joined.l0 k v 0 a0 a1 a2 b0 b1 b2) _ := EvB.step (fun k => by rw [lapidaryref10_joined.l0, if_pos (by decide)]) g00
  refine EvB.iff ?_ (EvB.congr (fun k => rfl) e0)
  constructor
  · intro h
    have hx : ∀ p q : Int, ((p = a0 ∧ q = a1) ∨ (p = a1 ∧ q = a2) ∨ (p = a2 ∧ q = a0)) → ((b0 = q ∧ b1 = p) ∨ (b1 = q ∧ b2 = p) ∨ (b2 = q ∧ b0 = p)) → (p = v ∨ q = v) → ∃ p q, (p, q) ∈ Fan.edges3 (a0, a1, a2) ∧ (p = v ∨ q = v) ∧ (q, p) ∈ Fan.edges3 (b0, b1, b2) := by
      intro p q h1 h2 h3
      refine ⟨p, q, ?_, h3, ?_⟩
      · rcases h1 with ⟨rfl, rfl⟩ | ⟨rfl, rfl⟩ | ⟨rfl, rfl⟩ <;> simp [Fan.edges3]
      · rcases h2 with ⟨rfl, rfl⟩ | ⟨rfl, rfl⟩ | ⟨rfl, rfl⟩ <;> simp [Fan.edges3]
    rcases h with h | h | h | h | h | h | h | h | h | h
    · exact hx a0 a1 (by simp) (by simp [h.2.1, h.2.2]) h.1
    · exact hx a0 a1 (by simp) (by simp [h.2.1, h.2.2]) h.1
    · exact hx a0 a1 (by simp) (by simp [h.2.1, h.2.2]) h.1
    · exact hx a1 a2 (by simp) (by simp [h.2.1, h.2.2]) h.1
    · exact hx a1 a2 (by simp) (by simp [h.2.1, h.2.2]) h.1
    · exact hx a1 a2 (by simp) (by simp [h.2.1, h.2.2]) h.1
    · exact hx a2 a0 (by simp) (by simp [h.2.1, h.2.2]) h.1
    · exact hx a2 a0 (by simp) (by simp [h.2.1, h.2.2]) h.1
    · exact hx a2 a0 (by simp) (by simp [h.2.1, h.2.2]) h.1
    · exact h.elim
  · rintro ⟨p, q, h1, h2, h3⟩
    simp only [Fan.edges3, List.mem_cons, List.not_mem_nil, or_false, Prod.mk.injEq] at h1 h3
    rcases h1 with ⟨rfl, rfl⟩ | ⟨rfl, rfl⟩ | ⟨rfl, rfl⟩ <;> rcases h3 with ⟨rfl, rfl⟩ | ⟨rfl, rfl⟩ | ⟨rfl, rfl⟩ <;> simp [h2]
theorem joined_adj {q1 q2 : Int × Int × Int} (h1 : Fan.plain3 q1) (h2 : Fan.plain3 q2) (v : Int) (v1 : Fan.has3 q1 v = true) (v2 : Fan.has3 q2 v = true) :
    (∃ p q, (p, q) ∈ Fan.edges3 q1 ∧ (p = v ∨ q = v) ∧ (q, p) ∈ Fan.edges3 q2) ↔ (Fan.toT q1 v = Fan.frT q2 v ∨ Fan.toT q2 v = Fan.frT q1 v) := by
  constructor
  · rintro ⟨p, q, e1, h, e2⟩
    rcases h with rfl | rfl
    · have x1 := (Fan.edge_from h1).1 e1
      have x2 := (Fan.edge_to h2).1 e2
      exact .inr (x2.2.trans x1.2.symm)
    · have x1 := (Fan.edge_to h1).1 e1
      have x2 := (Fan.edge_from h2).1 e2
      exact .inl (x1.2.trans x2.2.symm)
  · rintro (h | h)
    · exact ⟨Fan.toT q1 v, v, (Fan.edge_to h1).2 ⟨v1, rfl⟩, .inr rfl, (Fan.edge_from h2).2 ⟨v2, h.symm⟩⟩
    · exact ⟨v, Fan.frT q1 v, (Fan.edge_from h1).2 ⟨v1, rfl⟩, .inl rfl, (Fan.edge_to h2).2 ⟨v2, h⟩⟩
theorem cnt_set : ∀ (l : List Bool) (i : Nat), i < l.length → l.getD i false = false → (l.set i true).count true = l.count true + 1 := by
  intro l
  induction l with
  | nil => intro i h; simp at h
  | cons a r ih =>
    intro i h1 h2
    cases i with
    | zero =>
      have : a = false := by simpa using h2
      subst this
      simp
    | succ i =>
      have := ih i (by simpa using h1) (by simpa using h2)
      rw [List.set_cons_succ, List.count_cons, List.count_cons, this]
      omega
theorem cnt_all (l : List Bool) : l.count true = l.length ↔ ∀ i, i < l.length → l.getD i false = true := by
  rw [List.count_eq_length]
  constructor
  · intro h i hi
    rw [List.getD_eq_getElem?_getD, List.getElem?_eq_getElem hi]
    exact (h _ (List.getElem_mem hi)).symm
  · intro h b hb
    obtain ⟨i, hi, rfl⟩ := List.mem_iff_getElem.1 hb
    have := h i hi
    rw [List.getD_eq_getElem?_getD, List.getElem?_eq_getElem hi] at this
    exact this.symm
section
variable {T : List S47} (g : Fan.Good (trs T) T.length) (v : Int)
def nth (T : List S47) (v : Int) (i : Nat) : Nat := (Fan.atV (trs T) T.length v).getD i 0
def cAt (T : List S47) (v : Int) : Nat := (Fan.atV (trs T) T.length v).length
def xAt (T : List S47) (v : Int) : List Int := (Fan.atV (trs T) T.length v).map fun j : Nat => (j : Int)
theorem nth_mem {i : Nat} (h : i < cAt T v) : nth T v i ∈ Fan.atV (trs T) T.length v := by
  unfold nth cAt at *
  rw [List.getD_eq_getElem?_getD, List.getElem?_eq_getElem h]
  exact List.getElem_mem h
theorem xAt_len : (xAt T v).length = cAt T v := by unfold xAt cAt; simp
theorem xAt_rd {i : Nat} (h : i < cAt T v) : rd (xAt T v) (i : Int) = (nth T v i : Int) := by
  have e : rd (xAt T v) (i : Int) = (xAt T v).getD i 0 := rfl
  rw [e]
  unfold xAt nth cAt at *
  rw [List.getD_eq_getElem?_getD, List.getD_eq_getElem?_getD, List.getElem?_map, List.getElem?_eq_getElem h]
  rfl
structure Inv (g : Fan.Good (trs T) T.length) (v : Int) (seen : List Bool) (c : Nat) : Prop where
  len : seen.length = cAt T v
  cnt : seen.count true = c
  fst : seen.getD 0 false = true
  con : ∀ i, i < cAt T v → seen.getD i false = true → Fan.conn (Fan.atF g v) (nth T v 0) (nth T v i)
def Adj (T : List S47) (v : Int) (i k : Nat) : Prop := Fan.toT (trs T (nth T v i)) v = Fan.frT (trs T (nth T v k)) v ∨ Fan.toT (trs T (nth T v k)) v = Fan.frT (trs T (nth T v i)) v
def ClI (T : List S47) (v : Int) (seen : List Bool) (i : Nat) : Prop := seen.getD i false = true ∨ ∀ k, k < cAt T v → seen.getD k false = true → ¬ Adj T v i k
theorem cAt_le : cAt T v ≤ T.length := by
  unfold cAt Fan.atV
  exact Nat.le_trans (List.length_filter_le _ _) (by simp)
theorem one_joined (g : Fan.Good (trs T) T.length) {i k : Nat} (hi : i < cAt T v) (hk : k < cAt T v) : EvB (fun n => lapidaryref10_joined.f n (T.getD (nth T v i) z47).f0 (T.getD (nth T v i) z47).f1 (T.getD (nth T v i) z47).f2 (T.getD (nth T v k) z47).f0 (T.getD (nth T v k) z47).f1 (T.getD (nth T v k) z47).f2 v) (Adj T v i k) := by
  obtain ⟨a1, a2⟩ := Fan.mem_atV.1 (nth_mem v hi)
  obtain ⟨b1, b2⟩ := Fan.mem_atV.1 (nth_mem v hk)
  exact EvB.iff (joined_adj (g.pl _ a1) (g.pl _ b1) v a2 b2) (joined_ev _ _ _ _ _ _ v)
theorem one_end {seen : List Bool} {c : Nat} (h : Inv g v seen c) (hc : ∀ i, i < cAt T v → ClI T v seen i) (h0 : 0 < cAt T v) : c = cAt T v ↔ Fan.Whole (Fan.atF g v) := by
  have hmem : ∀ x, x ∈ Fan.atV (trs T) T.length v → ∃ i, i < cAt T v ∧ nth T v i = x := by
    intro x hx
    obtain ⟨i, hi, rfl⟩ := List.mem_iff_getElem.1 hx
    exact ⟨i, hi, by unfold nth; rw [List.getD_eq_getElem?_getD, List.getElem?_eq_getElem hi]; rfl⟩
  have hinj : ∀ i k, i < cAt T v → k < cAt T v → nth T v i = nth T v k → i = k := by
    intro i k hi hk e
    unfold nth at e
    rw [List.getD_eq_getElem?_getD, List.getD_eq_getElem?_getD, List.getElem?_eq_getElem hi, List.getElem?_eq_getElem hk] at e
    have e2 : (Fan.atV (trs T) T.length v)[i] = (Fan.atV (trs T) T.length v)[k] := e
    have hnd := List.pairwise_iff_getElem.1 (Fan.atF g v).nd
    rcases Nat.lt_trichotomy i k with h1 | h1 | h1
    · exact absurd e2 (hnd i k hi hk h1)
    · exact h1
    · exact absurd e2.symm (hnd k i hk hi h1)
  rw [← Fan.seen_whole (Fan.atF g v) (a0 := nth T v 0) (nth_mem v h0) (fun x => ∃ i, i < cAt T v ∧ nth T v i = x ∧ seen.getD i false = true) ⟨0, h0, rfl, h.fst⟩ (fun x _ hx => by obtain ⟨i, hi, rfl, hs⟩ := hx; exact h.con i hi hs) ?_]
  · have e := cnt_all seen
    rw [h.cnt, h.len] at e
    refine e.trans ?_
    constructor
    · intro hall x hx
      obtain ⟨i, hi, rfl⟩ := hmem x hx
      exact ⟨i, hi, rfl, hall i hi⟩
    · intro hall i hi
      obtain ⟨k, hk, e, hs⟩ := hall _ (nth_mem v hi)
      rw [← hinj k i hk hi e]
      exact hs
  · intro x hx y hy hS hxy
    obtain ⟨k, hk, rfl, hs⟩ := hS
    obtain ⟨i, hi, rfl⟩ := hmem y hy
    refine ⟨i, hi, rfl, ?_⟩
    rcases hc i hi with h1 | h1
    · exact h1
    · exact absurd (show Adj T v i k from hxy.symm) (h1 k hk hs)
end
end Go.Proofs.YtomknjmgcbbjlaaDoor.MR
namespace Go.Proofs.YtomknjmgcbbjlaaDoor.MR
open Go Go.RowKit Go.Proofs.YtomknjmgcbbjlaaDoor.PWlk Go.Proofs.YtomknjmgcbbjlaaDoorW.PrintWords Go.Proofs.YtomknjmgcbbjlaaDoor.MM
set_option linter.unusedVariables false
set_option maxRecDepth 100000
set_option linter.unusedSimpArgs false
section
variable {T : List S47} (g : Fan.Good (trs T) T.length) (v : Int)
structure St (g : Fan.Good (trs T) T.length) (v : Int) (seen0 : List Bool) (c0 i : Nat) (seen : List Bool) (c : Nat) (more : Bool) : Prop where
  inv : Inv g v seen c
  le : c0 ≤ c
  grew : more = true → c0 < c
  cl : more = false → ∀ j, j < i → ClI T v seen j
theorem Inv.le {g : Fan.Good (trs T) T.length} {v : Int} {seen : List Bool} {c : Nat} (h : Inv g v seen c) : c ≤ cAt T v := by
  have := List.count_le_length (a := true) (l := seen)
  rw [h.cnt, h.len] at this
  exact this
theorem getD_set {l : List Bool} {i j : Nat} (hi : i < l.length) : (l.set i true).getD j false = if j = i then true else l.getD j false := by
  by_cases h : j = i
  · subst h
    rw [if_pos rfl, List.getD_eq_getElem?_getD, List.getElem?_set_self hi]
    rfl
  · rw [if_neg h, List.getD_eq_getElem?_getD, List.getD_eq_getElem?_getD, List.getElem?_set_ne (fun e => h e.symm)]
theorem Inv.put {g : Fan.Good (trs T) T.length} {v : Int} {seen : List Bool} {c i k : Nat} (h : Inv g v seen c) (hi : i < cAt T v) (hk : k < cAt T v) (hs : seen.getD i false = false) (hsk : seen.getD k false = true) (ha : Adj T v i k) : Inv g v (seen.set i true) (c + 1) := by
  have hl : i < seen.length := by rw [h.len]; exact hi
  refine ⟨by rw [List.length_set]; exact h.len, by rw [cnt_set seen i hl hs, h.cnt], ?_, ?_⟩
  · rw [getD_set hl]
    split
    · rfl
    · exact h.fst
  · intro j hj hsj
    rw [getD_set hl] at hsj
    by_cases e : j = i
    · subst e
      exact Fan.conn_step (Fan.atF g v) (h.con k hk hsk) (nth_mem v hk) (nth_mem v hj) ha.symm
    · rw [if_neg e] at hsj
      exact h.con j hj hsj
theorem tri_at {i : Nat} (h : i < cAt T v) : (0 : Int) ≤ (nth T v i : Int) ∧ (nth T v i : Int) < (T.length : Int) := by
  have := (Fan.mem_atV.1 (nth_mem v h)).1
  omega
theorem rdOf_nat (l : List Bool) (i : Nat) : rdOf false l (i : Int) = l.getD i false := by unfold rdOf; rw [Int.toNat_natCast]
variable {P : Bool → Prop}
theorem one3 (hT : T.length ≤ 1000000) (seen0 : List Bool) (c0 i : Nat) (hi : i < cAt T v) (hnext : ∀ seen c more, St g v seen0 c0 (i + 1) seen c more → EvP (fun n => lapidaryref10_one.l2 n T v (xAt T v) seen (c : Int) more (wrap64 ((i : Int) + 1))) P) :
    ∀ (d k : Nat), k + d = cAt T v → ∀ seen c more, St g v seen0 c0 i seen c more → (more = false → seen.getD i false = true ∨ ∀ j, j < k → seen.getD j false = true → ¬ Adj T v i j) →
    EvP (fun n => lapidaryref10_one.l3 n T v (xAt T v) seen (c : Int) more (i : Int) (k : Int)) P := by
  have hcl := cAt_le (T := T) v
  intro d
  induction d with
  | zero =>
    intro k hk seen c more h hc
    have hst : St g v seen0 c0 (i + 1) seen c more := ⟨h.inv, h.le, h.grew, fun hm j hj => by
      by_cases e : j = i
      · subst e
        rcases hc hm with x | x
        · exact .inl x
        · exact .inr fun a ha => x a (by omega)
      · exact h.cl hm j (by omega)⟩
    exact EvP.step (fun n => by rw [lapidaryref10_one.l3, xAt_len, if_neg (by omega)]) (EvP.step (fun n => by rw [lapidaryref10_one.j4, if_neg (by decide)]) (hnext _ _ _ hst))
  | succ d ih =>
    intro k hk seen c more h hc
    have hk2 : k < cAt T v := by omega
    have hlen := h.inv.len
    cases hs : seen.getD i false with
    | true =>
      have hst : St g v seen0 c0 (i + 1) seen c more := ⟨h.inv, h.le, h.grew, fun hm j hj => by
        by_cases e : j = i
        · subst e; exact .inl hs
        · exact h.cl hm j (by omega)⟩
      exact EvP.step (fun n => by rw [lapidaryref10_one.l3, xAt_len, if_pos (by omega), if_pos (by omega), if_pos (by omega), rdOf_nat, hs]) (EvP.step (fun n => by rw [Bool.not_true, lapidaryref10_one.j4, if_neg (by decide)]) (hnext _ _ _ hst))
    | false =>
      refine EvP.step (fun n => by rw [lapidaryref10_one.l3, xAt_len, if_pos (by omega), if_pos (by omega), if_pos (by omega), rdOf_nat, hs, Bool.not_false]) ?_
      cases hsk : seen.getD k false with
      | false =>
        refine EvP.step (fun n => by rw [lapidaryref10_one.j4, if_pos rfl, if_pos (by omega), if_pos (by omega), rdOf_nat, hsk, if_neg (by decide), w1 (by omega)]) (ih (k + 1) (by omega) seen c more h fun hm => ?_)
        rcases hc hm with x | x
        · exact .inl x
        · refine .inr fun j hj hj2 => ?_
          by_cases e : j = k
          · subst e; rw [hsk] at hj2; cases hj2
          · exact x j (by omega) hj2
      | true =>
        obtain ⟨b, hb1, hb2⟩ := one_joined v g hi hk2
        have t1 := tri_at v hi
        have t2 := tri_at v hk2
        refine EvP.step (g := fun n => (lapidaryref10_joined.f n (T.getD (nth T v i) z47).f0 (T.getD (nth T v i) z47).f1 (T.getD (nth T v i) z47).f2 (T.getD (nth T v k) z47).f0 (T.getD (nth T v k) z47).f1 (T.getD (nth T v k) z47).f2 v).bind fun t183 => if t183 = true then (if (i : Int) < (seen.length : Int) then (lapidaryref10_one.l3 n T v (xAt T v) (seen.set ((i : Int)).toNat true) (wrap64 ((c : Int) + 1)) true i (wrap64 ((k : Int) + 1))) else none) else lapidaryref10_one.l3 n T v (xAt T v) seen c more i (wrap64 ((k : Int) + 1))) (fun n => by
          rw [lapidaryref10_one.j4, if_pos rfl, if_pos (by omega), if_pos (by omega), rdOf_nat, hsk, if_pos rfl, if_pos (by omega), xAt_len, if_pos (by omega), xAt_rd v hi, if_pos t1.1, if_pos t1.2, if_pos (by omega), xAt_rd v hk2, if_pos t2.1, if_pos t2.2, rd57, rd57]) ?_
        cases b with
        | true =>
          have ha := hb2.1 rfl
          have hle := h.inv.le
          have hst : St g v seen0 c0 i (seen.set i true) (c + 1) true := ⟨h.inv.put hi hk2 hs hsk ha, by have := h.le; omega, fun _ => by have := h.le; omega, fun hm => (nomatch hm)⟩
          obtain ⟨r, hr1, hr2⟩ := ih (k + 1) (by omega) (seen.set i true) (c + 1) true hst (fun hm => (nomatch hm))
          refine ⟨r, Ev.bind hb1 (Ev.congr (fun n => ?_) hr1), hr2⟩
          rw [if_pos rfl, if_pos (by omega), Int.toNat_natCast, w1 (by omega), w1 (by omega)]
        | false =>
          have ha : ¬ Adj T v i k := fun x => by have := hb2.2 x; cases this
          obtain ⟨r, hr1, hr2⟩ := ih (k + 1) (by omega) seen c more h (fun hm => by
            rcases hc hm with x | x
            · exact .inl x
            · refine .inr fun j hj hj2 => ?_
              by_cases e : j = k
              · subst e; exact ha
              · exact x j (by omega) hj2)
          refine ⟨r, Ev.bind hb1 (Ev.congr (fun n => ?_) hr1), hr2⟩
          rw [if_neg (by decide), w1 (by omega)]
theorem one2 (hT : T.length ≤ 1000000) (seen0 : List Bool) (c0 : Nat) (hend : ∀ seen c more, St g v seen0 c0 (cAt T v) seen c more → EvP (fun n => lapidaryref10_one.l1 n T v (xAt T v) seen (c : Int) more) P) :
    ∀ (d i : Nat), i + d = cAt T v → ∀ seen c more, St g v seen0 c0 i seen c more → EvP (fun n => lapidaryref10_one.l2 n T v (xAt T v) seen (c : Int) more (i : Int)) P := by
  have hcl := cAt_le (T := T) v
  intro d
  induction d with
  | zero =>
    intro i hi seen c more h
    have e : i = cAt T v := by omega
    subst e
    exact EvP.step (fun n => by rw [lapidaryref10_one.l2, xAt_len, if_neg (by omega)]) (hend _ _ _ h)
  | succ d ih =>
    intro i hi seen c more h
    refine EvP.step (fun n => by rw [lapidaryref10_one.l2, xAt_len, if_pos (by omega)]) ?_
    exact one3 g v hT seen0 c0 i (by omega) (fun seen' c' more' h' => by rw [w1 (by omega)]; exact ih (i + 1) (by omega) _ _ _ h') (cAt T v) 0 (by omega) seen c more h (fun hm => .inr fun j hj => absurd hj (Nat.not_lt_zero _))
theorem one1 (hT : T.length ≤ 1000000) (h0 : 0 < cAt T v) : ∀ (d : Nat) (seen : List Bool) (c : Nat), Inv g v seen c → cAt T v - c ≤ d → EvP (fun n => lapidaryref10_one.l1 n T v (xAt T v) seen (c : Int) true) (fun r => r = true ↔ Fan.Whole (Fan.atF g v)) := by
  intro d
  induction d with
  | zero =>
    intro seen c h hd
    refine EvP.step (fun n => by rw [lapidaryref10_one.l1, if_pos rfl]) ?_
    refine one2 g v hT seen c (fun seen' c' more' h' => ?_) (cAt T v) 0 (by omega) seen c false ⟨h, Nat.le_refl _, fun hm => (nomatch hm), fun _ j hj => absurd hj (Nat.not_lt_zero _)⟩
    cases more' with
    | true => have := h'.grew rfl; have := h'.inv.le; omega
    | false =>
      refine EvP.step (fun n => by rw [lapidaryref10_one.l1, if_neg (by decide), xAt_len]) (EvP.now ?_)
      rw [← one_end g v h'.inv (h'.cl rfl) h0, beq_iff_eq]
      omega
  | succ d ih =>
    intro seen c h hd
    refine EvP.step (fun n => by rw [lapidaryref10_one.l1, if_pos rfl]) ?_
    refine one2 g v hT seen c (fun seen' c' more' h' => ?_) (cAt T v) 0 (by omega) seen c false ⟨h, Nat.le_refl _, fun hm => (nomatch hm), fun _ j hj => absurd hj (Nat.not_lt_zero _)⟩
    cases more' with
    | true =>
      have h1 := h'.grew rfl
      have h2 := h'.inv.le
      exact ih seen' c' h'.inv (by omega)
    | false =>
      refine EvP.step (fun n => by rw [lapidaryref10_one.l1, if_neg (by decide), xAt_len]) (EvP.now ?_)
      rw [← one_end g v h'.inv (h'.cl rfl) h0, beq_iff_eq]
      omega
end
end Go.Proofs.YtomknjmgcbbjlaaDoor.MR
namespace Go.Proofs.YtomknjmgcbbjlaaDoor.MR
open Go Go.RowKit Go.Proofs.YtomknjmgcbbjlaaDoor.PWlk Go.Proofs.YtomknjmgcbbjlaaDoorW.PrintWords Go.Proofs.YtomknjmgcbbjlaaDoor.MM
set_option linter.unusedVariables false
set_option maxRecDepth 100000
set_option linter.unusedSimpArgs false
section
variable {T : List S47} (g : Fan.Good (trs T) T.length) (v : Int)
def upI (T : List S47) (v : Int) (i : Nat) : List Int := ((List.range i).filter fun j => Fan.has3 (trs T j) v).map fun j : Nat => (j : Int)
theorem upI_next (i : Nat) : upI T v (i + 1) = upI T v i ++ if Fan.has3 (trs T i) v = true then [(i : Int)] else [] := by
  unfold upI
  rw [List.range_succ, List.filter_append, List.map_append]
  congr 1
  by_cases h : Fan.has3 (trs T i) v = true
  · rw [if_pos h]; simp [h]
  · rw [if_neg h]; simp [h]
theorem upI_len (i : Nat) : (upI T v i).length ≤ i := by
  unfold upI
  rw [List.length_map]
  exact Nat.le_trans (List.length_filter_le _ _) (by simp)
theorem upI_all : upI T v T.length = xAt T v := rfl
theorem inv0 (h0 : 0 < cAt T v) : Inv g v ((List.replicate (cAt T v) false).set 0 true) 1 := by
  have hz : ∀ i, (List.replicate (cAt T v) false).getD i false = false := by
    intro i
    rw [List.getD_eq_getElem?_getD, List.getElem?_replicate]
    split <;> rfl
  have hl : 0 < (List.replicate (cAt T v) false).length := by simp; exact h0
  refine ⟨by simp, ?_, ?_, ?_⟩
  · rw [cnt_set _ 0 hl (hz 0)]
    simp [List.count_replicate]
  · rw [getD_set hl, if_pos rfl]
  · intro i hi hs
    rw [getD_set hl] at hs
    by_cases e : i = 0
    · subst e; exact Fan.conn_refl _ _
    · rw [if_neg e, hz] at hs; cases hs
theorem one0 (hT : T.length ≤ 1000000) : ∀ d i : Nat, i + d = T.length → EvP (fun n => lapidaryref10_one.l0 n T v (upI T v i) (i : Int)) (fun r => r = true ↔ (0 < cAt T v ∧ Fan.Whole (Fan.atF g v))) := by
  have hcl := cAt_le (T := T) v
  intro d
  induction d with
  | zero =>
    intro i hi
    have e : i = T.length := by omega
    subst e
    rw [upI_all]
    by_cases h0 : 0 < cAt T v
    · refine EvP.step (g := fun n => lapidaryref10_one.l1 n T v (xAt T v) ((List.replicate (cAt T v) false).set 0 true) ((1 : Nat) : Int) true) (fun n => ?_) (EvP.imp ?_ (one1 g v hT h0 (cAt T v) _ 1 (inv0 g v h0) (by omega)))
      · rw [lapidaryref10_one.l0, if_neg (by omega), xAt_len, if_neg (by omega), if_pos (by omega), if_pos (by omega), Option.bind_some, if_pos (by simp; omega), Int.toNat_natCast]
        rfl
      · intro r hr
        exact hr.trans ⟨fun h => ⟨h0, h⟩, fun h => h.2⟩
    · refine EvP.step (g := fun _ => some false) (fun n => by rw [lapidaryref10_one.l0, if_neg (by omega), xAt_len, if_pos (by omega)]) (EvP.now ?_)
      simp [h0]
  | succ d ih =>
    intro i hi
    have hlen := upI_len (T := T) v i
    have hn := upI_next (T := T) v i
    have ihn := ih (i + 1) (by omega)
    rw [hn] at ihn
    have hh : Fan.has3 (trs T i) v = true ↔ ((T.getD i z47).f0 = v ∨ (T.getD i z47).f1 = v ∨ (T.getD i z47).f2 = v) := by
      unfold Fan.has3 trs trT
      simp only [Bool.or_eq_true, beq_iff_eq, or_assoc]
    by_cases h1 : (T.getD i z47).f0 = v
    · rw [if_pos (hh.2 (.inl h1))] at ihn
      exact EvP.step (fun n => by rw [lapidaryref10_one.l0, if_pos (by omega), if_pos (by omega), rd57, if_pos h1, if_pos (by omega), w1 (by omega)]) ihn
    · by_cases h2 : (T.getD i z47).f1 = v
      · rw [if_pos (hh.2 (.inr (.inl h2)))] at ihn
        exact EvP.step (fun n => by rw [lapidaryref10_one.l0, if_pos (by omega), if_pos (by omega), rd57, if_neg h1, if_pos h2, if_pos (by omega), w1 (by omega)]) ihn
      · by_cases h3 : (T.getD i z47).f2 = v
        · rw [if_pos (hh.2 (.inr (.inr h3)))] at ihn
          exact EvP.step (fun n => by rw [lapidaryref10_one.l0, if_pos (by omega), if_pos (by omega), rd57, if_neg h1, if_neg h2, if_pos h3, if_pos (by omega), w1 (by omega)]) ihn
        · rw [if_neg (fun x => by rcases hh.1 x with y | y | y; exact h1 y; exact h2 y; exact h3 y), List.append_nil] at ihn
          exact EvP.step (fun n => by rw [lapidaryref10_one.l0, if_pos (by omega), if_pos (by omega), rd57, if_neg h1, if_neg h2, if_neg h3, w1 (by omega)]) ihn
theorem one_ev (hT : T.length ≤ 1000000) : EvB (fun n => lapidaryref10_one.f n T v) (0 < cAt T v ∧ Fan.Whole (Fan.atF g v)) := EvP.congr (fun n => rfl) (one0 g v hT T.length 0 (by omega))
end
def Single (T : List S47) : Prop := ∀ i, i < T.length → ∀ j, j < T.length → ∀ e, e ∈ Fan.edges3 (trs T i) → e ∈ Fan.edges3 (trs T j) → i = j
theorem good_of {P : List S46} {T : List S47} (h : Plain P T) (hs : Single T) : Fan.Good (trs T) T.length := ⟨fun i hi => (h.2 i hi).2, hs⟩
def Round (n : Nat) (T : List S47) (g : Fan.Good (trs T) T.length) : Prop := ∀ v : Nat, v < n → 0 < cAt T v ∧ Fan.Whole (Fan.atF g v)
inductive Told (P : List S46) (T : List S47) : Int → Prop
  | long (h : 4000 < P.length ∨ 8000 < T.length) : Told P T 3
  | arg (h : P.length ≤ 4000 ∧ T.length ≤ 8000) (hp : ¬ Plain P T) : Told P T 2
  | edge (h : P.length ≤ 4000 ∧ T.length ≤ 8000) (hp : Plain P T) (hs : ¬ Single T) : Told P T 80
  | vertex (h : P.length ≤ 4000 ∧ T.length ≤ 8000) (hp : Plain P T) (hs : Single T) (hr : ¬ Round P.length T (good_of hp hs)) : Told P T 81
  | ok (h : P.length ≤ 4000 ∧ T.length ≤ 8000) (hp : Plain P T) (hs : Single T) (hr : Round P.length T (good_of hp hs)) : Told P T 0
theorem ck2 (P : List S46) (T : List S47) (h : P.length ≤ 4000 ∧ T.length ≤ 8000) (hp : Plain P T) (hs : Single T) : ∀ d i : Nat, i + d = P.length → (∀ v : Nat, v < i → 0 < cAt T v ∧ Fan.Whole (Fan.atF (good_of hp hs) v)) → EvP (fun n => lapidaryref10_Check.l2 n (i : Int) P T) (Told P T) := by
  intro d
  induction d with
  | zero =>
    intro i hi hv
    have e : i = P.length := by omega
    subst e
    exact EvP.step (g := fun _ => some 0) (fun n => by rw [lapidaryref10_Check.l2, if_neg (by omega)]) (EvP.now (.ok h hp hs hv))
  | succ d ih =>
    intro i hi hv
    obtain ⟨b, hb1, hb2⟩ := one_ev (good_of hp hs) (i : Int) (by omega)
    cases b with
    | true =>
      obtain ⟨r, hr1, hr2⟩ := ih (i + 1) (by omega) (fun v hv2 => by
        by_cases e : v = i
        · subst e; exact hb2.1 rfl
        · exact hv v (by omega))
      refine EvP.step (fun n => by rw [lapidaryref10_Check.l2, if_pos (by omega)]) ⟨r, Ev.bind hb1 (Ev.congr (fun n => ?_) hr1), hr2⟩
      rw [if_pos rfl, w1 (by omega)]
    | false =>
      refine EvP.step (fun n => by rw [lapidaryref10_Check.l2, if_pos (by omega)]) ⟨81, Ev.bind hb1 (Ev.congr (fun n => ?_) (Ev.now _)), .vertex h hp hs (fun x => ?_)⟩
      · rw [if_neg (by decide)]
      · have := hb2.2 (x i (by omega)); cases this
def Firsts (T : List S47) (i : Nat) : Prop := ∀ j, j < i → ∀ e, e ∈ Fan.edges3 (trs T j) → ∀ m, m < j → e ∉ Fan.edges3 (trs T m)
theorem firsts_single {T : List S47} (h : Firsts T T.length) : Single T := by
  intro i hi j hj e h1 h2
  rcases Nat.lt_trichotomy i j with h3 | h3 | h3
  · exact absurd h1 (h j hj e h2 i h3)
  · exact h3
  · exact absurd h2 (h i hi e h1 j h3)
theorem ckE {P : List S46} {T : List S47} (h : P.length ≤ 4000 ∧ T.length ≤ 8000) (hp : Plain P T) (i : Nat) (hi : i < T.length) (a b : Int) (he : (a, b) ∈ Fan.edges3 (trs T i)) {f : Nat → Option Int}
    (hnext : (∀ m, m < i → (a, b) ∉ Fan.edges3 (trs T m)) → EvP f (Told P T)) : EvP (fun n => (lapidaryref10_Has.f n T a b).bind fun t => if t = (i : Int) then f n else some 80) (Told P T) := by
  obtain ⟨r, hr1, hr2⟩ := has_ev T a b (by omega)
  by_cases e : r = (i : Int)
  · have hf : ∀ m, m < i → (a, b) ∉ Fan.edges3 (trs T m) := by
      intro m hm
      rcases hr2 with ⟨h1, h2⟩ | ⟨m', h1, _, h3, h4, h5⟩
      · omega
      · exact h5 m (Nat.zero_le _) (by omega)
    obtain ⟨s, hs1, hs2⟩ := hnext hf
    exact ⟨s, Ev.bind hr1 (Ev.congr (fun n => by rw [if_pos e]) hs1), hs2⟩
  · refine ⟨80, Ev.bind hr1 (Ev.congr (fun n => by rw [if_neg e]) (Ev.now _)), .edge h hp fun hs => ?_⟩
    rcases hr2 with ⟨h1, h2⟩ | ⟨m, h1, _, h3, h4, h5⟩
    · exact h2 i (Nat.zero_le _) hi he
    · have := hs m h3 i hi (a, b) h4 he
      omega
theorem ck1 {P : List S46} {T : List S47} (h : P.length ≤ 4000 ∧ T.length ≤ 8000) (hp : Plain P T) (i : Nat) (hi : i < T.length) (hF : Firsts T i) (hnext : Firsts T (i + 1) → EvP (fun n => lapidaryref10_Check.l0 n (wrap64 ((i : Int) + 1)) P T) (Told P T)) :
    EvP (fun n => lapidaryref10_Check.l1 n (i : Int) 0 P T) (Told P T) := by
  have m0 : ((T.getD i z47).f0, (T.getD i z47).f1) ∈ Fan.edges3 (trs T i) := (edges_iff _ _ _).2 (.inl ⟨rfl, rfl⟩)
  have m1 : ((T.getD i z47).f1, (T.getD i z47).f2) ∈ Fan.edges3 (trs T i) := (edges_iff _ _ _).2 (.inr (.inl ⟨rfl, rfl⟩))
  have m2 : ((T.getD i z47).f2, (T.getD i z47).f0) ∈ Fan.edges3 (trs T i) := (edges_iff _ _ _).2 (.inr (.inr ⟨rfl, rfl⟩))
  refine EvP.step (fun n => by rw [lapidaryref10_Check.l1, if_pos (by decide), if_pos (by omega), if_pos (by omega), if_pos rfl, rd57, u0]) (ckE h hp i hi _ _ m0 fun n0 => ?_)
  refine EvP.step (fun n => by rw [lapidaryref10_Check.l1, if_pos (by decide), if_pos (by omega), if_pos (by omega), if_neg (by decide), if_pos rfl, rd57, u1]) (ckE h hp i hi _ _ m1 fun n1 => ?_)
  refine EvP.step (fun n => by rw [lapidaryref10_Check.l1, if_pos (by decide), if_pos (by omega), if_pos (by omega), if_neg (by decide), if_neg (by decide), if_pos rfl, rd57, u2]) (ckE h hp i hi _ _ m2 fun n2 => ?_)
  refine EvP.step (fun n => by rw [lapidaryref10_Check.l1, if_neg (by decide)]) (hnext ?_)
  intro j hj e he m hm
  by_cases e1 : j = i
  · subst e1
    obtain ⟨a, b⟩ := e
    rcases (edges_iff _ a b).1 he with ⟨rfl, rfl⟩ | ⟨rfl, rfl⟩ | ⟨rfl, rfl⟩
    · exact n0 m hm
    · exact n1 m hm
    · exact n2 m hm
  · exact hF j (by omega) e he m hm
theorem ck0 {P : List S46} {T : List S47} (h : P.length ≤ 4000 ∧ T.length ≤ 8000) (hp : Plain P T) : ∀ d i : Nat, i + d = T.length → Firsts T i → EvP (fun n => lapidaryref10_Check.l0 n (i : Int) P T) (Told P T) := by
  intro d
  induction d with
  | zero =>
    intro i hi hF
    have e : i = T.length := by omega
    subst e
    exact EvP.step (fun n => by rw [lapidaryref10_Check.l0, if_neg (by omega)]; rfl) (ck2 P T h hp (firsts_single hF) P.length 0 (by omega) (fun v hv => absurd hv (Nat.not_lt_zero _)))
  | succ d ih =>
    intro i hi hF
    refine EvP.step (fun n => by rw [lapidaryref10_Check.l0, if_pos (by omega)]) (ck1 h hp i (by omega) hF fun hF2 => ?_)
    rw [w1 (by omega)]
    exact ih (i + 1) (by omega) hF2
theorem check_ev (P : List S46) (T : List S47) : EvP (fun n => lapidaryref10_Check.f n P T) (Told P T) := by
  by_cases h1 : 4000 < P.length
  · refine EvP.congr (f := fun n => lapidaryref10_Check.f n P T) (g := fun n => lapidaryref10_Check.j0 n true P T) (fun n => by rw [lapidaryref10_Check.f, if_pos (by omega)]) ?_
    exact EvP.step (g := fun _ => some 3) (fun n => by rw [lapidaryref10_Check.j0, if_pos rfl]) (EvP.now (.long (.inl h1)))
  · by_cases h2 : 8000 < T.length
    · refine EvP.congr (f := fun n => lapidaryref10_Check.f n P T) (g := fun n => lapidaryref10_Check.j0 n true P T) (fun n => by rw [lapidaryref10_Check.f, if_neg (by omega), decide_eq_true (by omega)]) ?_
      exact EvP.step (g := fun _ => some 3) (fun n => by rw [lapidaryref10_Check.j0, if_pos rfl]) (EvP.now (.long (.inr h2)))
    · have h : P.length ≤ 4000 ∧ T.length ≤ 8000 := ⟨by omega, by omega⟩
      refine EvP.congr (f := fun n => lapidaryref10_Check.f n P T) (g := fun n => lapidaryref10_Check.j0 n false P T) (fun n => by rw [lapidaryref10_Check.f, if_neg (by omega), decide_eq_false (by omega)]) ?_
      refine EvP.step (fun n => by rw [lapidaryref10_Check.j0, if_neg (by decide)]) ?_
      obtain ⟨b, hb1, hb2⟩ := rplain P T (by omega) (by omega)
      cases b with
      | true =>
        obtain ⟨r, hr1, hr2⟩ := ck0 h (hb2.1 rfl) T.length 0 (by omega) (fun j hj => absurd hj (Nat.not_lt_zero _))
        exact ⟨r, Ev.bind hb1 (Ev.congr (fun n => by rw [if_pos rfl]; rfl) hr1), hr2⟩
      | false => exact ⟨2, Ev.bind hb1 (Ev.congr (fun n => by rw [if_neg (by decide)]) (Ev.now _)), .arg h (fun x => by have := hb2.2 x; cases this)⟩
end Go.Proofs.YtomknjmgcbbjlaaDoor.MR
namespace Go.Proofs.YtomknjmgcbbjlaaDoor.MC
open Go Go.RowKit Go.Proofs.YtomknjmgcbbjlaaDoor.PWlk Go.Proofs.YtomknjmgcbbjlaaDoor.MM Go.Proofs.YtomknjmgcbbjlaaDoor.MR
set_option linter.unusedVariables false
set_option maxRecDepth 100000
set_option linter.unusedSimpArgs false
theorem mem_edgesU {T : List S47} {e : Int × Int} {x : Int} : ∀ {n : Nat}, (e, x) ∈ edgesU T n ↔ ∃ m : Nat, m < n ∧ x = m ∧ e ∈ Fan.edges3 (trs T m) := by
  intro n
  induction n with
  | zero => simp [edgesU]
  | succ n ih =>
    rw [edgesU, List.mem_append, ih, List.mem_map]
    constructor
    · rintro (⟨m, h1, h2, h3⟩ | ⟨e', h1, h2⟩)
      · exact ⟨m, by omega, h2, h3⟩
      · injection h2 with h3 h4
        subst h3
        exact ⟨n, by omega, h4.symm, h1⟩
    · rintro ⟨m, h1, h2, h3⟩
      by_cases e1 : m = n
      · subst e1; exact .inr ⟨e, h3, by rw [h2]⟩
      · exact .inl ⟨m, by omega, h2, h3⟩
theorem mem_fst {T : List S47} {e : Int × Int} {n : Nat} : e ∈ (edgesU T n).map (·.1) ↔ ∃ m : Nat, m < n ∧ e ∈ Fan.edges3 (trs T m) := by
  rw [List.mem_map]
  constructor
  · rintro ⟨⟨e', x⟩, h1, h2⟩
    subst h2
    obtain ⟨m, h3, _, h4⟩ := mem_edgesU.1 h1
    exact ⟨m, h3, h4⟩
  · rintro ⟨m, h1, h2⟩
    exact ⟨(e, (m : Int)), mem_edgesU.2 ⟨m, h1, rfl, h2⟩, rfl⟩
theorem edges3_nodup {q : Int × Int × Int} (h : Fan.plain3 q) : (Fan.edges3 q).Nodup := by
  obtain ⟨a, b, c⟩ := q
  obtain ⟨h1, h2, h3⟩ := h
  simp only at h1 h2 h3
  unfold Fan.edges3
  simp only [List.nodup_cons, List.mem_cons, List.not_mem_nil, or_false, Prod.mk.injEq, not_or, not_false_eq_true, List.nodup_nil, and_true]
  refine ⟨⟨fun h => h1 h.1, fun h => h3 h.1.symm⟩, fun h => h2 h.1⟩
theorem edgesU_nodup {T : List S47} (hp : ∀ i, i < T.length → Fan.plain3 (trs T i)) : ∀ n, n ≤ T.length → Firsts T n → ((edgesU T n).map (·.1)).Nodup := by
  intro n
  induction n with
  | zero => intro _ _; simp [edgesU]
  | succ n ih =>
    intro hn hF
    have h1 := ih (by omega) (fun j hj => hF j (by omega))
    rw [edgesU, List.map_append, List.nodup_append]
    refine ⟨h1, ?_, ?_⟩
    · rw [List.map_map]
      show (List.map (fun e : Int × Int => e) (Fan.edges3 (trs T n))).Nodup
      rw [List.map_id']
      exact edges3_nodup (hp n (by omega))
    · intro a ha b hb hab
      subst hab
      obtain ⟨m, h3, h4⟩ := mem_fst.1 ha
      rw [List.map_map] at hb
      obtain ⟨e', h5, h6⟩ := List.mem_map.1 hb
      have h7 : e' = a := h6
      subst h7
      exact hF n (by omega) e' h5 m h3 h4
def look (T : List S47) (e : Int × Int) : Option Nat := (List.range T.length).find? fun i => decide (e ∈ Fan.edges3 (trs T i))
theorem look_some {T : List S47} {e : Int × Int} {i : Nat} (h : look T e = some i) : i < T.length ∧ e ∈ Fan.edges3 (trs T i) := by
  unfold look at h
  have h1 := List.mem_of_find?_eq_some h
  have h2 := List.find?_some h
  exact ⟨List.mem_range.1 h1, of_decide_eq_true h2⟩
theorem look_none {T : List S47} {e : Int × Int} (h : look T e = none) : ∀ i, i < T.length → e ∉ Fan.edges3 (trs T i) := by
  unfold look at h
  rw [List.find?_eq_none] at h
  intro i hi hc
  exact h i (List.mem_range.2 hi) (decide_eq_true hc)
theorem edge_wf {P : List S46} {T : List S47} (h : Plain P T) (hP : P.length ≤ 4000) {i : Nat} (hi : i < T.length) {e : Int × Int} (he : e ∈ Fan.edges3 (trs T i)) : wfE e := by
  have ht := (h.2 i hi).1
  obtain ⟨a, b⟩ := e
  have hw : ∀ z : Int, 0 ≤ z ∧ z < P.length → (Lit.int .i64 z).wf = true := fun z hz => wf_small (by omega)
  rcases (edges_iff _ a b).1 he with ⟨rfl, rfl⟩ | ⟨rfl, rfl⟩ | ⟨rfl, rfl⟩
  · exact ⟨hw _ ht.1, hw _ ht.2.1⟩
  · exact ⟨hw _ ht.2.1, hw _ ht.2.2⟩
  · exact ⟨hw _ ht.2.2, hw _ ht.1⟩
theorem edgesU_wf {P : List S46} {T : List S47} (h : Plain P T) (hP : P.length ≤ 4000) {n : Nat} (hn : n ≤ T.length) : ∀ p ∈ edgesU T n, wfE p.1 := by
  rintro ⟨e, x⟩ hp
  obtain ⟨m, h1, _, h3⟩ := mem_edgesU.1 hp
  exact edge_wf h hP (show m < T.length by omega) h3
theorem looks {P : List S46} {T : List S47} (h : Plain P T) (hP : P.length ≤ 4000) (hF : Firsts T T.length) : Looks (datE (edgesU T T.length)) T.length (look T) where
  lt := fun e i hl => (look_some hl).1
  some_ := fun e i he hl => by
    obtain ⟨h1, h2⟩ := look_some hl
    refine ⟨(has_datE (edgesU_wf h hP (Nat.le_refl _)) he).2 (mem_fst.2 ⟨i, h1, h2⟩), fun z => ?_⟩
    exact at_datE (edgesU_wf h hP (Nat.le_refl _)) he (edgesU_nodup (fun i hi => (h.2 i hi).2) _ (Nat.le_refl _) hF) (mem_edgesU.2 ⟨i, h1, rfl, h2⟩) z
  none_ := fun e he hl => by
    refine Bool.eq_false_iff.2 fun hc => ?_
    obtain ⟨m, h1, h2⟩ := mem_fst.1 ((has_datE (edgesU_wf h hP (Nat.le_refl _)) he).1 hc)
    exact look_none hl m h1 h2
def upto (T : List S47) (v : Int) (i : Nat) : List Nat := (List.range i).filter fun j => Fan.has3 (trs T j) v
theorem upto_next (T : List S47) (v : Int) (i : Nat) : upto T v (i + 1) = upto T v i ++ if Fan.has3 (trs T i) v = true then [i] else [] := by
  unfold upto
  rw [List.range_succ, List.filter_append]
  congr 1
  by_cases h : Fan.has3 (trs T i) v = true
  · rw [if_pos h]; simp [h]
  · rw [if_neg h]; simp [h]
theorem upto_len (T : List S47) (v : Int) (i : Nat) : (upto T v i).length ≤ i := Nat.le_trans (List.length_filter_le _ _) (by simp)
theorem bump_at (C : List Int) (a : Int) (v : Nat) (ha : 0 ≤ a ∧ a < C.length) (hc : 0 ≤ C.getD v 0 ∧ C.getD v 0 < 1000000) : (bump C a).getD v 0 = if a = v then C.getD v 0 + 1 else C.getD v 0 := by
  unfold bump
  rw [List.getD_eq_getElem?_getD]
  by_cases h : a = v
  · have hv : a.toNat = v := by omega
    rw [if_pos h, hv, List.getElem?_set_self (by omega)]
    show wrap64 (C.getD v 0 + 1) = _
    unfold wrap64
    omega
  · rw [if_neg h, List.getElem?_set_ne (by omega), ← List.getD_eq_getElem?_getD]
theorem set_at (F : List Int) (a x : Int) (v : Nat) (ha : 0 ≤ a ∧ a < F.length) : (F.set a.toNat x).getD v 0 = if a = v then x else F.getD v 0 := by
  rw [List.getD_eq_getElem?_getD]
  by_cases h : a = v
  · have hv : a.toNat = v := by omega
    rw [if_pos h, hv, List.getElem?_set_self (by omega)]
    rfl
  · rw [if_neg h, List.getElem?_set_ne (by omega), ← List.getD_eq_getElem?_getD]
theorem counts {P : List S46} {T : List S47} (h : Plain P T) (hT : T.length ≤ 8000) (v : Nat) (hv : v < P.length) : ∀ i, i ≤ T.length →
    (cntL P.length T i).getD v 0 = ((upto T v i).length : Nat) ∧ ((upto T v i).getLast? = none ∨ ∃ m, (upto T v i).getLast? = some m ∧ (fstL P.length T i).getD v 0 = (m : Nat)) := by
  intro i
  induction i with
  | zero =>
    intro _
    refine ⟨?_, .inl rfl⟩
    rw [cntL, List.getD_eq_getElem?_getD, List.getElem?_replicate, if_pos hv]
    rfl
  | succ i ih =>
    intro hi
    obtain ⟨h1, h2⟩ := ih (by omega)
    have hl := upto_len T v i
    have ht := h.2 i (by omega)
    obtain ⟨⟨b0, b1, b2⟩, d0, d1, d2⟩ := ht
    have hC := cntL_len P.length T i
    have hF := fstL_len P.length T i
    have hh : Fan.has3 (trs T i) v = true ↔ ((T.getD i z47).f0 = v ∨ (T.getD i z47).f1 = v ∨ (T.getD i z47).f2 = v) := by
      unfold Fan.has3 trs trT
      simp only [Bool.or_eq_true, beq_iff_eq, or_assoc]
    rw [cntL, fstL, upto_next]
    generalize T.getD i z47 = q at *
    generalize cntL P.length T i = C at *
    generalize fstL P.length T i = F at *
    have l1 : (bump C q.f0).length = C.length := by simp [bump]
    have l2 : (bump (bump C q.f0) q.f1).length = C.length := by simp [bump]
    have k1 : (F.set q.f0.toNat (i : Int)).length = F.length := by simp
    have k2 : ((F.set q.f0.toNat (i : Int)).set q.f1.toNat (i : Int)).length = F.length := by simp
    have s1 := bump_at C q.f0 v (by omega) (by omega)
    have s2 := bump_at (bump C q.f0) q.f1 v (by omega) (by rw [s1]; split <;> omega)
    have s3 := bump_at (bump (bump C q.f0) q.f1) q.f2 v (by omega) (by rw [s2, s1]; split <;> split <;> omega)
    have t1 := set_at F q.f0 i v (by omega)
    have t2 := set_at (F.set q.f0.toNat (i : Int)) q.f1 i v (by omega)
    have t3 := set_at ((F.set q.f0.toNat (i : Int)).set q.f1.toNat (i : Int)) q.f2 i v (by omega)
    show (bump (bump (bump C q.f0) q.f1) q.f2).getD v 0 = _ ∧ (_ ∨ ∃ m, _ ∧ (((F.set q.f0.toNat (i : Int)).set q.f1.toNat (i : Int)).set q.f2.toNat (i : Int)).getD v 0 = _)
    rw [s3, s2, s1, t3, t2, t1, h1]
    by_cases hv3 : Fan.has3 (trs T i) v = true
    · rw [if_pos hv3]
      refine ⟨?_, .inr ⟨i, by simp, ?_⟩⟩
      · rw [List.length_append]
        rcases hh.1 hv3 with e | e | e
        · rw [if_neg (by omega), if_neg (by omega), if_pos e]; simp
        · rw [if_neg (by omega), if_pos e, if_neg (by omega)]; simp
        · rw [if_pos e, if_neg (by omega), if_neg (by omega)]; simp
      · rcases hh.1 hv3 with e | e | e
        · rw [if_neg (by omega), if_neg (by omega), if_pos e]
        · rw [if_neg (by omega), if_pos e]
        · rw [if_pos e]
    · have e0 : q.f0 ≠ v := fun e => hv3 (hh.2 (.inl e))
      have e1 : q.f1 ≠ v := fun e => hv3 (hh.2 (.inr (.inl e)))
      have e2 : q.f2 ≠ v := fun e => hv3 (hh.2 (.inr (.inr e)))
      rw [if_neg hv3, if_neg e2, if_neg e1, if_neg e0, if_neg e2, if_neg e1, if_neg e0, List.append_nil]
      exact ⟨rfl, h2⟩
end Go.Proofs.YtomknjmgcbbjlaaDoor.MC
