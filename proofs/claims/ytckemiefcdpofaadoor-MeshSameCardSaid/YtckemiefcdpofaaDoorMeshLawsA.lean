import Derived.Test.YtckemiefcdpofaaDoorPMsrx12
namespace Go.Proofs.YtckemiefcdpofaaDoor.ML
open Go Go.RowKit Go.Proofs.YtckemiefcdpofaaDoor.PMsr Go.Proofs.YtckemiefcdpofaaDoorW.PrintWords Go.Proofs.YtckemiefcdpofaaDoorW.PrintLast Go.Proofs.YtckemiefcdpofaaDoorW.PrintMore
open Go.Proofs.YtckemiefcdpofaaDoor.MR (EvB EvP rd45 rd57 w1)
set_option linter.unusedVariables false
set_option linter.unusedSimpArgs false
theorem known_now : ((lapidarylaw10_known.f).bind fun t => some t) = some true := rfl
theorem meshChecks (P : List S55) (T : List S36) : ∃ k, lapidarylaw10_MeshChecks.f k P T = some true := by
  by_cases g1 : (P.length : Int) > 40
  · exact ⟨0, by unfold lapidarylaw10_MeshChecks.f lapidarylaw10_long.f; rw [if_pos g1, Option.bind_some, if_pos rfl]; exact known_now⟩
  by_cases g2 : (T.length : Int) > 60
  · exact ⟨0, by unfold lapidarylaw10_MeshChecks.f lapidarylaw10_long.f; rw [if_neg g1, Option.bind_some, decide_eq_true g2, if_pos rfl]; exact known_now⟩
  obtain ⟨c, hc, _⟩ := MR.check_ev P T
  have h1 : Ev (fun k => (lapidaryref10_Check.f k P T).bind fun t203 => (if c = t203 then ((lapidarylaw10_known.f).bind fun t204 => (some t204)) else (some false))) true :=
    Ev.bind (f := fun k t203 => (if c = t203 then ((lapidarylaw10_known.f).bind fun t204 => (some t204)) else (some false))) hc (Ev.congr (fun k => if_pos rfl) (Ev.now _))
  refine Ev.rounds (Ev.congr (fun k => ?_) (Ev.bind (f := fun k t202 => (lapidaryref10_Check.f k P T).bind fun t203 => (if t202 = t203 then ((lapidarylaw10_known.f).bind fun t204 => (some t204)) else (some false))) hc h1))
  unfold lapidarylaw10_MeshChecks.f lapidarylaw10_long.f mesh_Check.f
  rw [if_neg g1, Option.bind_some, decide_eq_false g2, if_neg (by decide)]
theorem getD_lt {α : Type} (z : α) {a b : List α} (h : a.length = b.length) (e : ∀ j, j < a.length → a.getD j z = b.getD j z) : a = b := by
  refine List.ext_getElem h fun i h1 h2 => ?_
  have := e i h1
  rw [List.getD_eq_getElem?_getD, List.getD_eq_getElem?_getD, List.getElem?_eq_getElem h1, List.getElem?_eq_getElem h2] at this
  exact this
theorem ne55 (p q : S55) : ((!(p.f0 == q.f0) || (!(p.f1 == q.f1) || (!(p.f2 == q.f2)))) = true) ↔ ¬ p = q := by
  cases p; cases q
  simp only [Bool.or_eq_true, Bool.not_eq_true', beq_eq_false_iff_ne, S55.mk.injEq]
  omega
theorem ne36 (p q : S36) : ((!(p.f0 == q.f0) || (!(p.f1 == q.f1) || (!(p.f2 == q.f2)))) = true) ↔ ¬ p = q := by
  cases p; cases q
  simp only [Bool.or_eq_true, Bool.not_eq_true', beq_eq_false_iff_ne, S36.mk.injEq]
  omega
theorem tail_iff {α : Type} (z : α) (a b : List α) (i n : Nat) (hi : i < n) : (¬ ¬ a.getD i z = b.getD i z) ∧ (∀ j, i + 1 ≤ j → j < n → a.getD j z = b.getD j z) ↔ ∀ j, i ≤ j → j < n → a.getD j z = b.getD j z := by
  rw [Classical.not_not]
  constructor
  · rintro ⟨h1, h2⟩ j h3 h4
    by_cases hj : j = i
    · subst hj; exact h1
    · exact h2 j (by omega) h4
  · exact fun h => ⟨h i (Nat.le_refl _) hi, fun j h1 h2 => h j (by omega) h2⟩
theorem eqP0 (a b : List S55) (hl : a.length = b.length) (hn : a.length ≤ 1000000) : ∀ d i : Nat, i + d = a.length → EvB (fun k => api_Point_40.l0 k a b (a.length : Int) (i : Int)) (∀ j, i ≤ j → j < a.length → a.getD j z55 = b.getD j z55) := by
  intro d
  induction d with
  | zero =>
    intro i hi
    exact EvB.step (g := fun _ => some true) (fun k => by rw [api_Point_40.l0, if_neg (by omega)]) (EvB.now ⟨fun _ j h1 h2 => by omega, fun _ => rfl⟩)
  | succ d ih =>
    intro i hi
    refine EvB.step (fun k => by rw [api_Point_40.l0, if_pos (by omega), if_pos (by omega), if_pos (by omega), if_pos (by omega), rd45, rd45, w1 (by omega)]) ?_
    refine EvB.iff ?_ (EvB.no (c := (!((a.getD i z55).f0 == (b.getD i z55).f0) || (!((a.getD i z55).f1 == (b.getD i z55).f1) || (!((a.getD i z55).f2 == (b.getD i z55).f2)))) = true) fun _ => ih (i + 1) (by omega))
    rw [ne55]
    exact tail_iff z55 a b i a.length (by omega)
theorem eqP (a b : List S55) (hn : a.length ≤ 1000000) : EvB (fun k => api_Point_40.f k a b) (a = b) := by
  by_cases hl : a.length = b.length
  · refine EvB.congr (fun k => by unfold api_Point_40.f; rw [if_pos (by omega)]; rfl) (EvB.iff ?_ (eqP0 a b hl hn a.length 0 (by omega)))
    exact ⟨fun h => getD_lt z55 hl fun j hj => h j (Nat.zero_le _) hj, fun h => by subst h; exact fun _ _ _ => rfl⟩
  · refine EvB.congr (g := fun _ => some false) (fun k => by unfold api_Point_40.f; rw [if_neg (by omega)]) (EvB.now ⟨fun h => (nomatch h), fun h => absurd (congrArg List.length h) hl⟩)
theorem eqT0 (a b : List S36) (hl : a.length = b.length) (hn : a.length ≤ 1000000) : ∀ d i : Nat, i + d = a.length → EvB (fun k => slices_Equal_3_int_3_int.l0 k a b (a.length : Int) (i : Int)) (∀ j, i ≤ j → j < a.length → a.getD j z36 = b.getD j z36) := by
  intro d
  induction d with
  | zero =>
    intro i hi
    exact EvB.step (g := fun _ => some true) (fun k => by rw [slices_Equal_3_int_3_int.l0, if_neg (by omega)]) (EvB.now ⟨fun _ j h1 h2 => by omega, fun _ => rfl⟩)
  | succ d ih =>
    intro i hi
    refine EvB.step (fun k => by rw [slices_Equal_3_int_3_int.l0, if_pos (by omega), if_pos (by omega), if_pos (by omega), if_pos (by omega), rd57, rd57, w1 (by omega)]) ?_
    refine EvB.iff ?_ (EvB.no (c := (!((a.getD i z36).f0 == (b.getD i z36).f0) || (!((a.getD i z36).f1 == (b.getD i z36).f1) || (!((a.getD i z36).f2 == (b.getD i z36).f2)))) = true) fun _ => ih (i + 1) (by omega))
    rw [ne36]
    exact tail_iff z36 a b i a.length (by omega)
theorem eqT (a b : List S36) (hn : a.length ≤ 1000000) : EvB (fun k => slices_Equal_3_int_3_int.f k a b) (a = b) := by
  by_cases hl : a.length = b.length
  · refine EvB.congr (fun k => by unfold slices_Equal_3_int_3_int.f; rw [if_pos (by omega)]; rfl) (EvB.iff ?_ (eqT0 a b hl hn a.length 0 (by omega)))
    exact ⟨fun h => getD_lt z36 hl fun j hj => h j (Nat.zero_le _) hj, fun h => by subst h; exact fun _ _ _ => rfl⟩
  · refine EvB.congr (g := fun _ => some false) (fun k => by unfold slices_Equal_3_int_3_int.f; rw [if_neg (by omega)]) (EvB.now ⟨fun h => (nomatch h), fun h => absurd (congrArg List.length h) hl⟩)
theorem EvB.bindB {g : Nat → Option Bool} {f : Nat → Option Bool} {R S : Prop} (hg : EvB g R) (h : R → EvB f S) : EvB (fun k => (g k).bind fun t => if t = true then f k else some false) (R ∧ S) := by
  obtain ⟨b, h1, h2⟩ := hg
  cases b with
  | true =>
    obtain ⟨r, h3, h4⟩ := h (h2.1 rfl)
    exact ⟨r, Ev.bind (f := fun k t => if t = true then f k else some false) h1 (Ev.congr (fun k => if_pos rfl) h3), ⟨fun h => ⟨h2.1 rfl, h4.1 h⟩, fun h => h4.2 h.2⟩⟩
  | false =>
    refine ⟨false, Ev.bind (f := fun k t => if t = true then f k else some false) h1 (Ev.congr (fun k => if_neg (by decide)) (Ev.now _)), ⟨fun h => (nomatch h), fun h => ?_⟩⟩
    exact absurd (h2.2 h.1) (by decide)
theorem EvB.some {g : Nat → Option Bool} {R : Prop} (hg : EvB g R) : EvB (fun k => (g k).bind fun t => some t) R := by
  obtain ⟨b, h1, h2⟩ := hg
  exact ⟨b, Ev.bind (f := fun k t => Option.some t) h1 (Ev.now _), h2⟩
theorem msame (P : List S55) (T : List S36) (Q : List S55) (U : List S36) (hP : P.length ≤ 1000000) (hT : T.length ≤ 1000000) : EvB (fun k => mesh_Same.f k P T Q U) (P = Q ∧ T = U) :=
  EvB.congr (fun k => rfl) (EvB.bindB (eqP P Q hP) fun _ => EvB.some (eqT T U hT))
theorem rs1 (P : List S55) (T : List S36) (Q : List S55) (U : List S36) (hl : T.length = U.length) (hT : T.length ≤ 1000000) : ∀ d i : Nat, i + d = T.length → EvB (fun k => lapidaryref10_Same.l1 k (i : Int) P T Q U) (∀ j, i ≤ j → j < T.length → T.getD j z36 = U.getD j z36) := by
  intro d
  induction d with
  | zero =>
    intro i hi
    exact EvB.step (g := fun _ => some true) (fun k => by rw [lapidaryref10_Same.l1, if_neg (by omega)]) (EvB.now ⟨fun _ j h1 h2 => by omega, fun _ => rfl⟩)
  | succ d ih =>
    intro i hi
    refine EvB.step (fun k => by rw [lapidaryref10_Same.l1, if_pos (by omega), if_pos (by omega), if_pos (by omega), rd57, rd57, w1 (by omega)]) ?_
    refine EvB.iff ?_ (EvB.no (c := (!((T.getD i z36).f0 == (U.getD i z36).f0) || (!((T.getD i z36).f1 == (U.getD i z36).f1) || (!((T.getD i z36).f2 == (U.getD i z36).f2)))) = true) fun _ => ih (i + 1) (by omega))
    rw [ne36]
    exact tail_iff z36 T U i T.length (by omega)
theorem rs0 (P : List S55) (T : List S36) (Q : List S55) (U : List S36) (hlP : P.length = Q.length) (hl : T.length = U.length) (hP : P.length ≤ 1000000) (hT : T.length ≤ 1000000) : ∀ d i : Nat, i + d = P.length → EvB (fun k => lapidaryref10_Same.l0 k (i : Int) P T Q U) ((∀ j, i ≤ j → j < P.length → P.getD j z55 = Q.getD j z55) ∧ ∀ j, j < T.length → T.getD j z36 = U.getD j z36) := by
  intro d
  induction d with
  | zero =>
    intro i hi
    refine EvB.step (fun k => by rw [lapidaryref10_Same.l0, if_neg (by omega)]; rfl) (EvB.iff ?_ (rs1 P T Q U hl hT T.length 0 (by omega)))
    exact ⟨fun h => ⟨fun j h1 h2 => by omega, fun j hj => h j (Nat.zero_le _) hj⟩, fun h j _ hj => h.2 j hj⟩
  | succ d ih =>
    intro i hi
    refine EvB.step (fun k => by rw [lapidaryref10_Same.l0, if_pos (by omega), if_pos (by omega), if_pos (by omega), rd45, rd45, w1 (by omega)]) ?_
    refine EvB.iff ?_ (EvB.no (c := (!((P.getD i z55).f0 == (Q.getD i z55).f0) || (!((P.getD i z55).f1 == (Q.getD i z55).f1) || (!((P.getD i z55).f2 == (Q.getD i z55).f2)))) = true) fun _ => ih (i + 1) (by omega))
    rw [ne55, ← tail_iff z55 P Q i P.length (by omega), and_assoc]
theorem rj0 {b : Bool} (h : b = true) (P : List S55) (T : List S36) (Q : List S55) (U : List S36) : EvB (fun k => lapidaryref10_Same.j0 k b P T Q U) False :=
  EvB.step (g := fun _ => some false) (fun k => by rw [lapidaryref10_Same.j0, if_pos h]) (EvB.now ⟨fun h => (nomatch h), False.elim⟩)
theorem rsame (P : List S55) (T : List S36) (Q : List S55) (U : List S36) (hP : P.length ≤ 1000000) (hT : T.length ≤ 1000000) : EvB (fun k => lapidaryref10_Same.f k P T Q U) (P = Q ∧ T = U) := by
  by_cases h1 : P.length = Q.length
  · refine EvB.congr (fun k => by unfold lapidaryref10_Same.f; rw [if_pos (by omega)]) ?_
    by_cases h2 : T.length = U.length
    · refine EvB.step (g := fun k => lapidaryref10_Same.l0 k 0 P T Q U) (fun k => by rw [lapidaryref10_Same.j0, if_neg (by rw [h2]; simp)]) (EvB.iff ?_ (rs0 P T Q U h1 h2 hP hT P.length 0 (by omega)))
      exact ⟨fun h => ⟨getD_lt z55 h1 fun j hj => h.1 j (Nat.zero_le _) hj, getD_lt z36 h2 h.2⟩, fun h => by obtain ⟨rfl, rfl⟩ := h; exact ⟨fun _ _ _ => rfl, fun _ _ => rfl⟩⟩
    · refine EvB.iff ⟨False.elim, fun h => h2 (congrArg List.length h.2)⟩ (rj0 (bne_iff_ne.2 (by omega)) P T Q U)
  · refine EvB.congr (fun k => by unfold lapidaryref10_Same.f; rw [if_neg (by omega)]) (EvB.iff ⟨False.elim, fun h => h1 (congrArg List.length h.1)⟩ (rj0 rfl P T Q U))
section
variable (P : List S55) (T : List S36) (Q : List S55) (U : List S36)
theorem ms_end (hP : P.length ≤ 1000000) (hT : T.length ≤ 1000000) (b : Bool) (hb : b = true ↔ (P = Q ∧ T = U)) (X : List S55) (hX : T.length ≤ 1000000) : ∀ d i : Nat, ∀ V : List S36, i + d = V.length → V.length ≤ 1000000 → Ev (fun k => lapidarylaw10_MeshSame.l0 k b (i : Int) P T Q U X V) true := by
  intro d
  induction d with
  | zero =>
    intro i V hi hV
    obtain ⟨c, h1, h2⟩ := msame P T Q U hP hT
    obtain ⟨e, h3, h4⟩ := msame P T P T hP hT
    have he : e = true := h4.2 ⟨rfl, rfl⟩
    subst he
    have hcb : c = b := by rw [Bool.eq_iff_iff, h2, hb]
    subst hcb
    have g3 : Ev (fun k => (mesh_Same.f k P T P T).bind fun t236 => (if t236 = true then ((lapidarylaw10_known.f).bind fun t237 => (some t237)) else (some false))) true :=
      Ev.bind (f := fun k t236 => (if t236 = true then ((lapidarylaw10_known.f).bind fun t237 => (some t237)) else (some false))) h3 (Ev.congr (fun k => if_pos rfl) (Ev.now _))
    exact Ev.step (f := fun k => (mesh_Same.f k P T Q U).bind fun t235 => (if (t235 == c) = true then ((mesh_Same.f k P T P T).bind fun t236 => (if t236 = true then ((lapidarylaw10_known.f).bind fun t237 => (some t237)) else (some false))) else (some false))) (fun k => by rw [lapidarylaw10_MeshSame.l0, if_neg (by omega)]) (Ev.bind (f := fun k t235 => (if (t235 == c) = true then ((mesh_Same.f k P T P T).bind fun t236 => (if t236 = true then ((lapidarylaw10_known.f).bind fun t237 => (some t237)) else (some false))) else (some false))) h1 (Ev.congr (fun k => if_pos (beq_self_eq_true c)) g3))
  | succ d ih =>
    intro i V hi hV
    refine Ev.step (f := fun k => lapidarylaw10_MeshSame.l0 k b ((i + 1 : Nat) : Int) P T Q U X (V.set i ⟨-1, -1, -1⟩)) (fun k => ?_) (ih (i + 1) (V.set i ⟨-1, -1, -1⟩) (by rw [List.length_set]; omega) (by rw [List.length_set]; omega))
    rw [lapidarylaw10_MeshSame.l0, if_pos (by omega), if_pos (by omega), w1 (by omega), Int.toNat_natCast]
theorem meshSame : ∃ k, lapidarylaw10_MeshSame.f k P T Q U = some true := by
  have hlong : Ev (fun k => lapidarylaw10_MeshSame.j0 k true P T Q U) true := Ev.step (f := fun _ => some true) (fun k => by rw [lapidarylaw10_MeshSame.j0, if_pos rfl]; rfl) (Ev.now _)
  by_cases g1 : (P.length : Int) > 40
  · refine Ev.rounds (Ev.congr (fun k => ?_) hlong)
    unfold lapidarylaw10_MeshSame.f lapidarylaw10_long.f
    rw [if_pos g1, Option.bind_some, if_pos rfl]
  by_cases g2 : (T.length : Int) > 60
  · refine Ev.rounds (Ev.congr (fun k => ?_) hlong)
    unfold lapidarylaw10_MeshSame.f lapidarylaw10_long.f
    rw [if_neg g1, Option.bind_some, decide_eq_true g2, if_pos rfl]
  by_cases g4 : (Q.length : Int) > 40
  · refine Ev.rounds (Ev.congr (fun k => ?_) hlong)
    unfold lapidarylaw10_MeshSame.f lapidarylaw10_long.f
    rw [if_neg g1, Option.bind_some, decide_eq_false g2, if_neg (by decide), if_pos g4, Option.bind_some]
  by_cases g5 : (U.length : Int) > 60
  · refine Ev.rounds (Ev.congr (fun k => ?_) hlong)
    unfold lapidarylaw10_MeshSame.f lapidarylaw10_long.f
    rw [if_neg g1, Option.bind_some, decide_eq_false g2, if_neg (by decide), if_neg g4, Option.bind_some, decide_eq_true g5]
  have hP : P.length ≤ 1000000 := by omega
  have hT : T.length ≤ 1000000 := by omega
  obtain ⟨b, h1, h2⟩ := msame P T Q U hP hT
  obtain ⟨c, h3, h4⟩ := rsame P T Q U hP hT
  obtain ⟨e, h5, h6⟩ := rsame P T P T hP hT
  have he : e = true := h6.2 ⟨rfl, rfl⟩
  subst he
  have hcb : c = b := by rw [Bool.eq_iff_iff, h2, h4]
  subst hcb
  have hcp : mesh_Copy.f P T = some (P, T) := by unfold mesh_Copy.f; rw [if_pos ⟨hP, hT⟩]
  have hj1 : Ev (fun k => lapidarylaw10_MeshSame.j1 k c (!true) P T Q U P T) true :=
    Ev.step (f := fun k => lapidarylaw10_MeshSame.l0 k c 0 P T Q U P T) (fun k => by rw [lapidarylaw10_MeshSame.j1, if_neg (by decide)]) (ms_end P T Q U hP hT c h2 P hT T.length 0 T (by omega) hT)
  have g3 : Ev (fun k => (lapidaryref10_Same.f k P T P T).bind fun t233 => (lapidarylaw10_MeshSame.j1 k c (!t233) P T Q U P T)) true := Ev.bind (f := fun k t233 => (lapidarylaw10_MeshSame.j1 k c (!t233) P T Q U P T)) h5 hj1
  have g2' : Ev (fun k => (lapidaryref10_Same.f k P T Q U).bind fun t232 => (if (c != t232) = true then (lapidarylaw10_MeshSame.j1 k c true P T Q U P T) else ((lapidaryref10_Same.f k P T P T).bind fun t233 => (lapidarylaw10_MeshSame.j1 k c (!t233) P T Q U P T)))) true :=
    Ev.bind (f := fun k t232 => (if (c != t232) = true then (lapidarylaw10_MeshSame.j1 k c true P T Q U P T) else ((lapidaryref10_Same.f k P T P T).bind fun t233 => (lapidarylaw10_MeshSame.j1 k c (!t233) P T Q U P T)))) h3 (Ev.congr (fun k => if_neg (by simp)) g3)
  have hj0 : Ev (fun k => lapidarylaw10_MeshSame.j0 k false P T Q U) true := by
    refine Ev.step (f := fun k => (mesh_Same.f k P T Q U).bind fun t224 => ((mesh_Copy.f P T).bind fun bt225 => ((lapidaryref10_Same.f k P T Q U).bind fun t232 => (if (t224 != t232) = true then (lapidarylaw10_MeshSame.j1 k t224 true P T Q U bt225.1 bt225.2) else ((lapidaryref10_Same.f k bt225.1 bt225.2 P T).bind fun t233 => (lapidarylaw10_MeshSame.j1 k t224 (!t233) P T Q U bt225.1 bt225.2)))))) (fun k => by rw [lapidarylaw10_MeshSame.j0, if_neg (by decide)]) ?_
    refine Ev.bind (f := fun k t224 => ((mesh_Copy.f P T).bind fun bt225 => ((lapidaryref10_Same.f k P T Q U).bind fun t232 => (if (t224 != t232) = true then (lapidarylaw10_MeshSame.j1 k t224 true P T Q U bt225.1 bt225.2) else ((lapidaryref10_Same.f k bt225.1 bt225.2 P T).bind fun t233 => (lapidarylaw10_MeshSame.j1 k t224 (!t233) P T Q U bt225.1 bt225.2)))))) h1 (Ev.congr (fun k => ?_) g2')
    rw [hcp, Option.bind_some]
  refine Ev.rounds (Ev.congr (fun k => ?_) hj0)
  unfold lapidarylaw10_MeshSame.f lapidarylaw10_long.f
  rw [if_neg g1, Option.bind_some, decide_eq_false g2, if_neg (by decide), if_neg g4, Option.bind_some, decide_eq_false g5]
end
end Go.Proofs.YtckemiefcdpofaaDoor.ML
