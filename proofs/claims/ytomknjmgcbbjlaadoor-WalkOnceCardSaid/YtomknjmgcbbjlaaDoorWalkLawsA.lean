import Derived.Test.YtomknjmgcbbjlaaDoorRefWalk
import Derived.Test.YtomknjmgcbbjlaaDoorPWlkx13
import Derived.Test.YtomknjmgcbbjlaaDoorPWlkx14
import Derived.Test.YtomknjmgcbbjlaaDoorPWlkx15
namespace Go.Proofs.YtomknjmgcbbjlaaDoor.WL
open Go Go.RowKit Go.Proofs.YtomknjmgcbbjlaaDoor.PWlk Go.Proofs.YtomknjmgcbbjlaaDoorW.PrintWords Go.Proofs.YtomknjmgcbbjlaaDoorW.PrintLast Go.Proofs.YtomknjmgcbbjlaaDoorW.PrintMore
open Go.Proofs.YtomknjmgcbbjlaaDoor.MR (EvB EvP rd45 rd57 w1 Told)
open Go.Proofs.YtomknjmgcbbjlaaDoor.RF (Ev.if_yes Ev.if_no Ev.some_bind rw0 walk_ev)
open Go.Proofs.YtomknjmgcbbjlaaDoor.WW (to47 to62 to107 surf_of tab_of)
set_option linter.unusedVariables false
set_option linter.unusedSimpArgs false
set_option maxRecDepth 100000
theorem getD_lt {α : Type} (z : α) {a b : List α} (h : a.length = b.length) (e : ∀ j, j < a.length → a.getD j z = b.getD j z) : a = b := by
  refine List.ext_getElem h fun i h1 h2 => ?_
  have := e i h1
  rw [List.getD_eq_getElem?_getD, List.getD_eq_getElem?_getD, List.getElem?_eq_getElem h1, List.getElem?_eq_getElem h2] at this
  exact this
theorem ne55 (p q : S46) : ((!(p.f0 == q.f0) || (!(p.f1 == q.f1) || (!(p.f2 == q.f2)))) = true) ↔ ¬ p = q := by
  cases p; cases q
  simp only [Bool.or_eq_true, Bool.not_eq_true', beq_eq_false_iff_ne, S46.mk.injEq]
  omega
theorem ne36 (p q : S47) : ((!(p.f0 == q.f0) || (!(p.f1 == q.f1) || (!(p.f2 == q.f2)))) = true) ↔ ¬ p = q := by
  cases p; cases q
  simp only [Bool.or_eq_true, Bool.not_eq_true', beq_eq_false_iff_ne, S47.mk.injEq]
  omega
theorem tail_iff {α : Type} (z : α) (a b : List α) (i n : Nat) (hi : i < n) : (¬ ¬ a.getD i z = b.getD i z) ∧ (∀ j, i + 1 ≤ j → j < n → a.getD j z = b.getD j z) ↔ ∀ j, i ≤ j → j < n → a.getD j z = b.getD j z := by
  rw [Classical.not_not]
  constructor
  · rintro ⟨h1, h2⟩ j h3 h4
    by_cases hj : j = i
    · subst hj; exact h1
    · exact h2 j (by omega) h4
  · exact fun h => ⟨h i (Nat.le_refl _) hi, fun j h1 h2 => h j (by omega) h2⟩
theorem eqP0 (a b : List S46) (hl : a.length = b.length) (hn : a.length ≤ 1000000) : ∀ d i : Nat, i + d = a.length → EvB (fun k => api_Point_81.l0 k a b (a.length : Int) (i : Int)) (∀ j, i ≤ j → j < a.length → a.getD j z46 = b.getD j z46) := by
  intro d
  induction d with
  | zero =>
    intro i hi
    exact EvB.step (g := fun _ => some true) (fun k => by rw [api_Point_81.l0, if_neg (by omega)]) (EvB.now ⟨fun _ j h1 h2 => by omega, fun _ => rfl⟩)
  | succ d ih =>
    intro i hi
    refine EvB.step (fun k => by rw [api_Point_81.l0, if_pos (by omega), if_pos (by omega), if_pos (by omega), if_pos (by omega), rd45, rd45, w1 (by omega)]) ?_
    refine EvB.iff ?_ (EvB.no (c := (!((a.getD i z46).f0 == (b.getD i z46).f0) || (!((a.getD i z46).f1 == (b.getD i z46).f1) || (!((a.getD i z46).f2 == (b.getD i z46).f2)))) = true) fun _ => ih (i + 1) (by omega))
    rw [ne55]
    exact tail_iff z46 a b i a.length (by omega)
theorem eqP (a b : List S46) (hn : a.length ≤ 1000000) : EvB (fun k => api_Point_81.f k a b) (a = b) := by
  by_cases hl : a.length = b.length
  · refine EvB.congr (fun k => by unfold api_Point_81.f; rw [if_pos (by omega)]; rfl) (EvB.iff ?_ (eqP0 a b hl hn a.length 0 (by omega)))
    exact ⟨fun h => getD_lt z46 hl fun j hj => h j (Nat.zero_le _) hj, fun h => by subst h; exact fun _ _ _ => rfl⟩
  · refine EvB.congr (g := fun _ => some false) (fun k => by unfold api_Point_81.f; rw [if_neg (by omega)]) (EvB.now ⟨fun h => (nomatch h), fun h => absurd (congrArg List.length h) hl⟩)
theorem eqT0 (a b : List S47) (hl : a.length = b.length) (hn : a.length ≤ 1000000) : ∀ d i : Nat, i + d = a.length → EvB (fun k => slices_Equal_3_int_3_int.l0 k a b (a.length : Int) (i : Int)) (∀ j, i ≤ j → j < a.length → a.getD j z47 = b.getD j z47) := by
  intro d
  induction d with
  | zero =>
    intro i hi
    exact EvB.step (g := fun _ => some true) (fun k => by rw [slices_Equal_3_int_3_int.l0, if_neg (by omega)]) (EvB.now ⟨fun _ j h1 h2 => by omega, fun _ => rfl⟩)
  | succ d ih =>
    intro i hi
    refine EvB.step (fun k => by rw [slices_Equal_3_int_3_int.l0, if_pos (by omega), if_pos (by omega), if_pos (by omega), if_pos (by omega), rd57, rd57, w1 (by omega)]) ?_
    refine EvB.iff ?_ (EvB.no (c := (!((a.getD i z47).f0 == (b.getD i z47).f0) || (!((a.getD i z47).f1 == (b.getD i z47).f1) || (!((a.getD i z47).f2 == (b.getD i z47).f2)))) = true) fun _ => ih (i + 1) (by omega))
    rw [ne36]
    exact tail_iff z47 a b i a.length (by omega)
theorem eqT (a b : List S47) (hn : a.length ≤ 1000000) : EvB (fun k => slices_Equal_3_int_3_int.f k a b) (a = b) := by
  by_cases hl : a.length = b.length
  · refine EvB.congr (fun k => by unfold slices_Equal_3_int_3_int.f; rw [if_pos (by omega)]; rfl) (EvB.iff ?_ (eqT0 a b hl hn a.length 0 (by omega)))
    exact ⟨fun h => getD_lt z47 hl fun j hj => h j (Nat.zero_le _) hj, fun h => by subst h; exact fun _ _ _ => rfl⟩
  · refine EvB.congr (g := fun _ => some false) (fun k => by unfold slices_Equal_3_int_3_int.f; rw [if_neg (by omega)]) (EvB.now ⟨fun h => (nomatch h), fun h => absurd (congrArg List.length h) hl⟩)
theorem EvB.bindB {g : Nat → Option Bool} {f : Nat → Option Bool} {R S : Prop} (hg : EvB g R) (h : R → EvB f S) : EvB (fun k => (g k).bind fun t => if t = true then f k else some false) (R ∧ S) := by
  obtain ⟨b, h1, h2⟩ := hg
  cases b with
  | true =>
    obtain ⟨r, h3, h4⟩ := h (h2.1 rfl)
    exact ⟨r, Ev.bind (f := fun k t => if t = true then f k else some false) h1 (Ev.congr (fun k => if_pos rfl) h3), ⟨fun h => ⟨h2.1 rfl, h4.1 h⟩, fun h => h4.2 h.2⟩⟩
  | false =>
    refine ⟨false, Ev.bind (f := fun k t => if t = true then f k else some false) h1 (Ev.congr (fun k => if_neg (by decide)) (Ev.now _)), ⟨fun h => (nomatch h), fun h => ?_⟩⟩
    exact absurd (h2.2 h.1) (by decide)
theorem EvB.some {g : Nat → Option Bool} {R : Prop} (hg : EvB g R) : EvB (fun k => (g k).bind fun t => some t) R := by
  obtain ⟨b, h1, h2⟩ := hg
  exact ⟨b, Ev.bind (f := fun k t => Option.some t) h1 (Ev.now _), h2⟩
theorem msame (P : List S46) (T : List S47) (Q : List S46) (U : List S47) (hP : P.length ≤ 1000000) (hT : T.length ≤ 1000000) : EvB (fun k => mesh_Same.f k P T Q U) (P = Q ∧ T = U) :=
  EvB.congr (fun k => rfl) (EvB.bindB (eqP P Q hP) fun _ => EvB.some (eqT T U hT))
theorem rs1 (P : List S46) (T : List S47) (Q : List S46) (U : List S47) (hl : T.length = U.length) (hT : T.length ≤ 1000000) : ∀ d i : Nat, i + d = T.length → EvB (fun k => lapidaryref10_Same.l1 k (i : Int) P T Q U) (∀ j, i ≤ j → j < T.length → T.getD j z47 = U.getD j z47) := by
  intro d
  induction d with
  | zero =>
    intro i hi
    exact EvB.step (g := fun _ => some true) (fun k => by rw [lapidaryref10_Same.l1, if_neg (by omega)]) (EvB.now ⟨fun _ j h1 h2 => by omega, fun _ => rfl⟩)
  | succ d ih =>
    intro i hi
    refine EvB.step (fun k => by rw [lapidaryref10_Same.l1, if_pos (by omega), if_pos (by omega), if_pos (by omega), rd57, rd57, w1 (by omega)]) ?_
    refine EvB.iff ?_ (EvB.no (c := (!((T.getD i z47).f0 == (U.getD i z47).f0) || (!((T.getD i z47).f1 == (U.getD i z47).f1) || (!((T.getD i z47).f2 == (U.getD i z47).f2)))) = true) fun _ => ih (i + 1) (by omega))
    rw [ne36]
    exact tail_iff z47 T U i T.length (by omega)
theorem rs0 (P : List S46) (T : List S47) (Q : List S46) (U : List S47) (hlP : P.length = Q.length) (hl : T.length = U.length) (hP : P.length ≤ 1000000) (hT : T.length ≤ 1000000) : ∀ d i : Nat, i + d = P.length → EvB (fun k => lapidaryref10_Same.l0 k (i : Int) P T Q U) ((∀ j, i ≤ j → j < P.length → P.getD j z46 = Q.getD j z46) ∧ ∀ j, j < T.length → T.getD j z47 = U.getD j z47) := by
  intro d
  induction d with
  | zero =>
    intro i hi
    refine EvB.step (fun k => by rw [lapidaryref10_Same.l0, if_neg (by omega)]; rfl) (EvB.iff ?_ (rs1 P T Q U hl hT T.length 0 (by omega)))
    exact ⟨fun h => ⟨fun j h1 h2 => by omega, fun j hj => h j (Nat.zero_le _) hj⟩, fun h j _ hj => h.2 j hj⟩
  | succ d ih =>
    intro i hi
    refine EvB.step (fun k => by rw [lapidaryref10_Same.l0, if_pos (by omega), if_pos (by omega), if_pos (by omega), rd45, rd45, w1 (by omega)]) ?_
    refine EvB.iff ?_ (EvB.no (c := (!((P.getD i z46).f0 == (Q.getD i z46).f0) || (!((P.getD i z46).f1 == (Q.getD i z46).f1) || (!((P.getD i z46).f2 == (Q.getD i z46).f2)))) = true) fun _ => ih (i + 1) (by omega))
    rw [ne55, ← tail_iff z46 P Q i P.length (by omega), and_assoc]
theorem rj0 {b : Bool} (h : b = true) (P : List S46) (T : List S47) (Q : List S46) (U : List S47) : EvB (fun k => lapidaryref10_Same.j0 k b P T Q U) False :=
  EvB.step (g := fun _ => some false) (fun k => by rw [lapidaryref10_Same.j0, if_pos h]) (EvB.now ⟨fun h => (nomatch h), False.elim⟩)
theorem rsame (P : List S46) (T : List S47) (Q : List S46) (U : List S47) (hP : P.length ≤ 1000000) (hT : T.length ≤ 1000000) : EvB (fun k => lapidaryref10_Same.f k P T Q U) (P = Q ∧ T = U) := by
  by_cases h1 : P.length = Q.length
  · refine EvB.congr (fun k => by unfold lapidaryref10_Same.f; rw [if_pos (by omega)]) ?_
    by_cases h2 : T.length = U.length
    · refine EvB.step (g := fun k => lapidaryref10_Same.l0 k 0 P T Q U) (fun k => by rw [lapidaryref10_Same.j0, if_neg (by rw [h2]; simp)]) (EvB.iff ?_ (rs0 P T Q U h1 h2 hP hT P.length 0 (by omega)))
      exact ⟨fun h => ⟨getD_lt z46 h1 fun j hj => h.1 j (Nat.zero_le _) hj, getD_lt z47 h2 h.2⟩, fun h => by obtain ⟨rfl, rfl⟩ := h; exact ⟨fun _ _ _ => rfl, fun _ _ => rfl⟩⟩
    · refine EvB.iff ⟨False.elim, fun h => h2 (congrArg List.length h.2)⟩ (rj0 (bne_iff_ne.2 (by omega)) P T Q U)
  · refine EvB.congr (fun k => by unfold lapidaryref10_Same.f; rw [if_neg (by omega)]) (EvB.iff ⟨False.elim, fun h => h1 (congrArg List.length h.1)⟩ (rj0 rfl P T Q U))
theorem ne62 (p q : S62) : ((!(p.f0 == q.f0) || (!(p.f1 == q.f1))) = true) ↔ ¬ p = q := by
  cases p; cases q
  simp only [Bool.or_eq_true, Bool.not_eq_true', beq_eq_false_iff_ne, S62.mk.injEq]
  omega
theorem eqS0 (a b : List S62) (hl : a.length = b.length) (hn : a.length ≤ 1000000) : ∀ d i : Nat, i + d = a.length → EvB (fun k => lapidaryref11_SameSteps.l0 k a b (i : Int)) (∀ j, i ≤ j → j < a.length → a.getD j z62 = b.getD j z62) := by
  intro d
  induction d with
  | zero =>
    intro i hi
    exact EvB.step (g := fun _ => some true) (fun k => by rw [lapidaryref11_SameSteps.l0, if_neg (by omega)]) (EvB.now ⟨fun _ j h1 h2 => by omega, fun _ => rfl⟩)
  | succ d ih =>
    intro i hi
    have hrd : ∀ l : List S62, rd_T62 l (i : Int) = l.getD i z62 := fun l => by unfold rd_T62; rw [Int.toNat_natCast]
    refine EvB.step (fun k => by rw [lapidaryref11_SameSteps.l0, if_pos (by omega), if_pos (by omega), if_pos (by omega), hrd, hrd, w1 (by omega)]) ?_
    refine EvB.iff ?_ (EvB.no (c := (!((a.getD i z62).f0 == (b.getD i z62).f0) || (!((a.getD i z62).f1 == (b.getD i z62).f1))) = true) fun _ => ih (i + 1) (by omega))
    rw [ne62]
    exact tail_iff z62 a b i a.length (by omega)
theorem eqS (a b : List S62) (hn : a.length ≤ 1000000) : EvB (fun k => lapidaryref11_SameSteps.f k a b) (a = b) := by
  by_cases hl : a.length = b.length
  · refine EvB.congr (fun k => by unfold lapidaryref11_SameSteps.f; rw [if_pos (by omega)]; rfl) (EvB.iff ?_ (eqS0 a b hl hn a.length 0 (by omega)))
    exact ⟨fun h => getD_lt z62 hl fun j hj => h j (Nat.zero_le _) hj, fun h => by subst h; exact fun _ _ _ => rfl⟩
  · refine EvB.congr (g := fun _ => some false) (fun k => by unfold lapidaryref11_SameSteps.f; rw [if_neg (by omega)]) (EvB.now ⟨fun h => (nomatch h), fun h => absurd (congrArg List.length h) hl⟩)
theorem eqI0 (a b : List Int) (hl : a.length = b.length) (hn : a.length ≤ 1000000) : ∀ d i : Nat, i + d = a.length → EvB (fun k => lapidaryref00_SameInts.l0 k a b (i : Int)) (∀ j, i ≤ j → j < a.length → a.getD j 0 = b.getD j 0) := by
  intro d
  induction d with
  | zero =>
    intro i hi
    exact EvB.step (g := fun _ => some true) (fun k => by rw [lapidaryref00_SameInts.l0, if_neg (by omega)]) (EvB.now ⟨fun _ j h1 h2 => by omega, fun _ => rfl⟩)
  | succ d ih =>
    intro i hi
    have hrd : ∀ l : List Int, rd l (i : Int) = l.getD i 0 := fun l => by unfold rd; rw [Int.toNat_natCast]
    refine EvB.step (fun k => by rw [lapidaryref00_SameInts.l0, if_pos (by omega), if_pos (by omega), if_pos (by omega), hrd, hrd, w1 (by omega)]) ?_
    refine EvB.iff ?_ (EvB.yes (c := a.getD i 0 = b.getD i 0) fun _ => ih (i + 1) (by omega))
    have := tail_iff (0 : Int) a b i a.length (by omega)
    rw [Classical.not_not] at this
    exact this
theorem eqI (a b : List Int) (hn : a.length ≤ 1000000) : EvB (fun k => lapidaryref00_SameInts.f k a b) (a = b) := by
  by_cases hl : a.length = b.length
  · refine EvB.congr (fun k => by unfold lapidaryref00_SameInts.f; rw [if_pos (by omega)]; rfl) (EvB.iff ?_ (eqI0 a b hl hn a.length 0 (by omega)))
    exact ⟨fun h => getD_lt 0 hl fun j hj => h j (Nat.zero_le _) hj, fun h => by subst h; exact fun _ _ _ => rfl⟩
  · refine EvB.congr (g := fun _ => some false) (fun k => by unfold lapidaryref00_SameInts.f; rw [if_neg (by omega)]) (EvB.now ⟨fun h => (nomatch h), fun h => absurd (congrArg List.length h) hl⟩)
theorem yes_of {f : Nat → Option Bool} {R : Prop} (h : EvB f R) (hr : R) : Ev f true := by
  obtain ⟨b, h1, h2⟩ := h
  rw [h2.2 hr] at h1
  exact h1
theorem no_of {f : Nat → Option Bool} {R : Prop} (h : EvB f R) (hr : ¬ R) : Ev f false := by
  obtain ⟨b, h1, h2⟩ := h
  cases b with
  | true => exact absurd (h2.1 rfl) hr
  | false => exact h1
theorem Ev.one {α : Type} {f : Nat → Option α} {a b : α} (h : Ev f a) (k : Ev f b) : a = b := by
  obtain ⟨K, h⟩ := h
  obtain ⟨L, k⟩ := k
  have := (h (max K L) (Nat.le_max_left ..)).symm.trans (k (max K L) (Nat.le_max_right ..))
  exact Option.some.inj this
theorem chk_is {P : List S46} {T : List S47} {k : Nat} {r : Int} (h : lapidaryref10_Check.f k P T = some r) : chk P T = r :=
  Ev.one (chk_ev P T) (Ev.of (fun k => lapidaryref10_Check.mono P T k) h)
def twoP : List S46 := [⟨0, 0, 0⟩, ⟨1, 0, 0⟩, ⟨0, 1, 0⟩, ⟨1, 1, 0⟩]
def twoT : List S47 := [⟨0, 1, 2⟩, ⟨2, 1, 3⟩]
theorem chk_two : chk twoP twoT = 0 := chk_is (k := 100) (by kernel_rfl)
theorem chk_one : chk [⟨0, 0, 0⟩] [] = 81 := chk_is (k := 100) (by kernel_rfl)
theorem wk_two : (wk twoT).S = [(0, 0), (1, 0), (2, 0), (1, 0), (1, 0), (1, 0)] := by unfold wk; kernel_rfl
theorem known_ev : Ev (fun k => lapidarylaw11_known.f k) true := by
  unfold lapidarylaw11_known.f walk_Steps.f
  refine Ev.some_bind (Ev.some_bind ?_)
  show Ev (fun n => if chk twoP twoT = 0 then _ else _) true
  refine Ev.if_yes chk_two ?_
  have h1 : (if chk twoP twoT = 0 then (wk twoT).S.map to62 else []) = [(⟨0, 0⟩ : S62), ⟨1, 0⟩, ⟨2, 0⟩, ⟨1, 0⟩, ⟨1, 0⟩, ⟨1, 0⟩] := by rw [if_pos chk_two, wk_two]; rfl
  refine Ev.bind (f := fun k t => if t = true then some (chk [⟨0, 0, 0⟩] [] == 81) else some false) (a := true) (yes_of (eqS (if chk twoP twoT = 0 then (wk twoT).S.map to62 else []) _ (by rw [h1]; decide)) h1) ?_
  refine Ev.if_yes rfl ?_
  rw [chk_one]
  exact Ev.now _
theorem known_true : Ev (fun k => (lapidarylaw11_known.f k).bind fun t => some t) true := Ev.bind (f := fun k t => some t) known_ev (Ev.now _)
theorem long_no {P : List S46} {T : List S47} (g1 : ¬ (P.length : Int) > 40) (g2 : ¬ (T.length : Int) > 60) : lapidarylaw11_long.f P T = some false := by
  unfold lapidarylaw11_long.f; rw [if_neg g1, decide_eq_false g2]
theorem long_ev {P : List S46} {T : List S47} {f : Nat → Option Bool} (h : ¬ (P.length : Int) > 40 → ¬ (T.length : Int) > 60 → Ev f true) : Ev (fun k => (lapidarylaw11_long.f P T).bind fun t => if t = true then (lapidarylaw11_known.f k).bind fun t => some t else f k) true := by
  by_cases g1 : (P.length : Int) > 40
  · have : lapidarylaw11_long.f P T = some true := by unfold lapidarylaw11_long.f; rw [if_pos g1]
    rw [this]
    exact known_true
  by_cases g2 : (T.length : Int) > 60
  · have : lapidarylaw11_long.f P T = some true := by unfold lapidarylaw11_long.f; rw [if_neg g1, decide_eq_true g2]
    rw [this]
    exact known_true
  rw [long_no g1 g2]
  exact Ev.congr (fun k => rfl) (h g1 g2)
theorem wk_small {P : List S46} {T : List S47} (h : chk P T = 0) : WW.Small (wk T) := by
  have ht := chk_told P T
  rw [h] at ht
  obtain ⟨hS, hs⟩ := surf_of ht
  exact WW.small_of hS (WP.fin_inv (tab_of hS.hp hs))
theorem walkSteps (P : List S46) (T : List S47) : ∃ k, lapidarylaw11_WalkSteps.f k P T = some true := by
  refine Ev.rounds ?_
  unfold lapidarylaw11_WalkSteps.f
  refine long_ev fun g1 g2 => ?_
  unfold walk_Steps.f walk_Order.f
  refine Ev.some_bind (Ev.some_bind (Ev.bind (walk_ev P T) ?_))
  have hc : (rw0 P T (wk T) (chk P T)).2.2.2.2.2 = chk P T := by unfold rw0; split <;> rfl
  have hS : (rw0 P T (wk T) (chk P T)).2.2.2.2.1 = if chk P T = 0 then (wk T).S.map to62 else [] := by unfold rw0; split <;> rfl
  have hV : (rw0 P T (wk T) (chk P T)).1 = if chk P T = 0 then (wk T).V else [] := by unfold rw0; split <;> rfl
  have hO : (rw0 P T (wk T) (chk P T)).2.1 = if chk P T = 0 then (wk T).O.map (fun i : Nat => (i : Int)) else [] := by unfold rw0; split <;> rfl
  rw [hc, hS, hV, hO]
  refine Ev.bind (a := true) (yes_of (eqS _ _ ?_) rfl) (Ev.if_yes rfl (Ev.bind (a := true) (yes_of (eqI _ _ ?_) rfl) (Ev.if_yes rfl (Ev.bind (a := true) (yes_of (eqI _ _ ?_) rfl) (Ev.if_yes rfl (Ev.if_yes rfl (Ev.if_yes rfl known_true)))))))
  · show (if chk P T = 0 then (wk T).S.map to62 else []).length ≤ _
    by_cases h : chk P T = 0
    · rw [if_pos h, List.length_map]; have := (wk_small h).S; omega
    · rw [if_neg h]; simp
  · show (if chk P T = 0 then (wk T).V else []).length ≤ _
    by_cases h : chk P T = 0
    · rw [if_pos h]; have := (wk_small h).V; omega
    · rw [if_neg h]; simp
  · show (if chk P T = 0 then (wk T).O.map (fun i : Nat => (i : Int)) else []).length ≤ _
    by_cases h : chk P T = 0
    · rw [if_pos h, List.length_map]; have := (wk_small h).O; omega
    · rw [if_neg h]; simp
noncomputable def cP (P : List S46) (T : List S47) : List S46 := if chk P T = 0 then (wk T).V.map (fun v => P.getD v.toNat z46) else []
noncomputable def cT (P : List S46) (T : List S47) : List S47 := if chk P T = 0 then (wk T).T.map to47 else []
theorem V_in {P : List S46} {T : List S47} (h : chk P T = 0) {v : Int} (hv : v ∈ (wk T).V) : 0 ≤ v ∧ v < P.length := by
  have ht := chk_told P T
  rw [h] at ht
  obtain ⟨hS, hs⟩ := surf_of ht
  obtain ⟨i, hi, h2⟩ := (WP.fin_V (tab_of hS.hp hs)).1 hv
  exact hS.rng hi h2
theorem canon0 (P : List S46) (T : List S47) (V O : List Int) (Tn : List S47) (G : List S107) (S : List S62) (T0 : List S47) (hl : V.length ≤ 100000) (hV : ∀ v, v ∈ V → 0 ≤ v ∧ v < P.length) : ∀ d i : Nat, i + d = V.length → Ev (fun k => lapidaryref11_Canon.l0 k (i : Int) P T V O Tn G S ((V.take i).map fun v => P.getD v.toNat z46) T0) (V.map (fun v => P.getD v.toNat z46), T0, 0) := by
  intro d
  induction d with
  | zero =>
    intro i hi
    refine Ev.step (f := fun _ => some _) (fun k => by rw [lapidaryref11_Canon.l0, if_neg (by omega)]) ?_
    rw [List.take_of_length_le (by omega)]
    exact Ev.now _
  | succ d ih =>
    intro i hi
    have hlt : i < V.length := by omega
    have hrd : rd V (i : Int) = V[i] := by unfold rd; rw [Int.toNat_natCast, List.getD_eq_getElem?_getD, List.getElem?_eq_getElem hlt]; rfl
    have hv := hV V[i] (List.getElem_mem hlt)
    refine Ev.step (fun k => by rw [lapidaryref11_Canon.l0, if_pos (by omega), if_pos (by omega), hrd, if_pos hv.1, if_pos hv.2, if_pos (by rw [List.length_map, List.length_take]; omega), w1 (by omega)]) ?_
    have h1 := ih (i + 1) (by omega)
    rw [List.take_succ_eq_append_getElem hlt, List.map_append] at h1
    exact h1
theorem canon_ev (P : List S46) (T : List S47) : Ev (fun k => lapidaryref11_Canon.f k P T) (cP P T, cT P T, chk P T) := by
  unfold lapidaryref11_Canon.f
  refine Ev.bind (walk_ev P T) ?_
  unfold rw0 cP cT
  by_cases h : chk P T = 0
  · simp only [if_pos h]
    rw [h]
    exact canon0 P T (wk T).V _ _ _ _ _ (by have := (wk_small h).V; omega) (fun v hv => V_in h hv) (wk T).V.length 0 (by simp)
  · simp only [if_neg h]
    exact Ev.now _
theorem cP_len (P : List S46) (T : List S47) : (cP P T).length ≤ 100000 := by
  unfold cP
  by_cases h : chk P T = 0
  · rw [if_pos h, List.length_map]; have := (wk_small h).V; omega
  · rw [if_neg h]; simp
theorem cT_len (P : List S46) (T : List S47) : (cT P T).length ≤ 100000 := by
  unfold cT
  by_cases h : chk P T = 0
  · rw [if_pos h, List.length_map]; have := (wk_small h).T; omega
  · rw [if_neg h]; simp
theorem is_ev (P : List S46) (T : List S47) : EvB (fun k => walk_Is.f k P T) (chk P T = 0 ∧ cP P T = P ∧ cT P T = T) := by
  unfold walk_Is.f walk_Canon.f
  show EvB (fun k => (if chk P T = 0 then (mesh_Same.f k (cP P T) (cT P T) P T).bind fun t => some t else some false)) _
  exact EvB.yes (c := chk P T = 0) fun h => EvB.some (msame _ _ _ _ (by have := cP_len P T; omega) (by have := cT_len P T; omega))
theorem is_same (P : List S46) (T : List S47) : Ev (fun k => (walk_Is.f k P T).bind fun t481 => if chk P T = 0 then (lapidaryref10_Same.f k (cP P T) (cT P T) P T).bind fun t482 => if (t481 == t482) = true then (lapidarylaw11_known.f k).bind fun t => some t else some false else if (t481 == false) = true then (lapidarylaw11_known.f k).bind fun t => some t else some false) true := by
  obtain ⟨b, h1, h2⟩ := is_ev P T
  refine Ev.bind h1 ?_
  by_cases h : chk P T = 0
  · refine Ev.if_yes h ?_
    obtain ⟨c, h3, h4⟩ := rsame (cP P T) (cT P T) P T (by have := cP_len P T; omega) (by have := cT_len P T; omega)
    refine Ev.bind h3 (Ev.if_yes ?_ known_true)
    have : b = true ↔ c = true := by rw [h2, h4]; exact ⟨fun h => h.2, fun h2 => ⟨h, h2⟩⟩
    cases b <;> cases c <;> simp_all
  · refine Ev.if_no h (Ev.if_yes ?_ known_true)
    cases b with
    | true => exact absurd (h2.1 rfl).1 h
    | false => rfl
theorem walkCanons (P : List S46) (T : List S47) : ∃ k, lapidarylaw11_WalkCanons.f k P T = some true := by
  refine Ev.rounds ?_
  unfold lapidarylaw11_WalkCanons.f
  refine long_ev fun g1 g2 => ?_
  unfold walk_Canon.f
  refine Ev.some_bind (Ev.bind (canon_ev P T) ?_)
  refine Ev.bind (a := true) (yes_of (rsame (cP P T) (cT P T) (cP P T) (cT P T) (by have := cP_len P T; omega) (by have := cT_len P T; omega)) ⟨rfl, rfl⟩) (Ev.if_yes rfl (Ev.if_yes rfl ?_))
  exact is_same P T
theorem walkIs (P : List S46) (T : List S47) : ∃ k, lapidarylaw11_WalkIs.f k P T = some true := by
  refine Ev.rounds ?_
  unfold lapidarylaw11_WalkIs.f
  refine long_ev fun g1 g2 => ?_
  exact Ev.bind (canon_ev P T) (is_same P T)
end Go.Proofs.YtomknjmgcbbjlaaDoor.WL
