import Derived.Test.YtckemiefcdpofaaDoorPMsrx13
import Derived.Test.YtckemiefcdpofaaDoorLike
namespace Go.Proofs.YtckemiefcdpofaaDoor.ML
open Go Go.RowKit Go.Proofs.YtckemiefcdpofaaDoor.PMsr Go.Proofs.YtckemiefcdpofaaDoorW.PrintWords Go.Proofs.YtckemiefcdpofaaDoorW.PrintLast Go.Proofs.YtckemiefcdpofaaDoorW.PrintMore
open Go.Proofs.YtckemiefcdpofaaDoor.MR (EvB EvP rd57 w1 Plain Single)
open Go.Proofs.YtckemiefcdpofaaDoor.MM
set_option linter.unusedVariables false
set_option linter.unusedSimpArgs false
theorem told_unique {P : List S55} {T : List S36} {r s : Int} (h : MR.Told P T r) (k : MR.Told P T s) : r = s := by
  cases h <;> cases k <;> first | rfl | omega | (exfalso; contradiction)
def fl36 (q : S36) : S36 := ⟨q.f0, q.f2, q.f1⟩
theorem getD_set {l : List S36} {k : Nat} (hk : k < l.length) (q : S36) (j : Nat) : (l.set k q).getD j z36 = if j = k then q else l.getD j z36 := by
  rw [List.getD_eq_getElem?_getD, List.getD_eq_getElem?_getD, List.getElem?_set]
  by_cases h : k = j
  · subst h; rw [if_pos rfl, if_pos hk, if_pos rfl]; rfl
  · rw [if_neg h, if_neg (fun e => h e.symm)]
theorem flip_told {P : List S55} {T V : List S36} {c : Int} (ht : MR.Told P T c) (hl : V.length = T.length) (hv : ∀ j, j < T.length → V.getD j z36 = fl36 (T.getD j z36)) : MR.Told P V c := by
  refine LK.told_turned (fl := true) (σ := fun i => i) ht hl (fun i hi => by omega) (fun i _ j _ e => e) (fun j hj => ⟨j, by omega, rfl⟩) fun i hi => ?_
  unfold trs
  rw [hv i hi]
  exact .inl rfl
def Side (T : List S36) (k : Nat) : Prop := ∃ a b, (a, b) ∈ Fan.edges3 (trs T k) ∧ ∃ j, j < T.length ∧ (b, a) ∈ Fan.edges3 (trs T j)
theorem one_told {P : List S55} {T : List S36} (ht : MR.Told P T 0) {k : Nat} (hk : k < T.length) {r : Int} (hr : MR.Told P (T.set k (fl36 (T.getD k z36))) r) : r = 80 ↔ Side T k := by
  obtain ⟨U, hU⟩ : ∃ U, U = T.set k (fl36 (T.getD k z36)) := ⟨_, rfl⟩
  rw [← hU] at hr
  have hUl : U.length = T.length := by rw [hU, List.length_set]
  have hUk : trs U k = LK.flip3 (trs T k) := by
    unfold trs
    rw [hU, getD_set hk, if_pos rfl]
    rfl
  have hUj : ∀ j, j ≠ k → trs U j = trs T j := fun j hj => by
    unfold trs
    rw [hU, getD_set hk, if_neg hj]
  generalize h0 : (0 : Int) = c at ht
  cases ht with
  | long h => cases h0
  | arg _ h => cases h0
  | edge _ _ h => cases h0
  | vertex _ _ _ h => cases h0
  | ok hl hp hs hro =>
    have hp' : MR.Plain P U := by
      refine ⟨hp.1, fun i hi => ?_⟩
      by_cases e : i = k
      · subst e
        have := hp.2 i (by omega)
        rw [hU, getD_set hk, if_pos rfl]
        obtain ⟨⟨h1, h2, h3⟩, h4, h5, h6⟩ := this
        exact ⟨⟨h1, h3, h2⟩, fun e => h6 e.symm, fun e => h5 e.symm, fun e => h4 e.symm⟩
      · have := hp.2 i (by omega)
        rw [hU, getD_set hk, if_neg e]
        exact this
    have hl' : P.length ≤ 4000 ∧ U.length ≤ 8000 := by omega
    have key : ¬ MR.Single U ↔ Side T k := by
      constructor
      · intro hns
        refine Classical.byContradiction fun hns2 => hns fun i hi j hj e h1 h2 => ?_
        rw [hUl] at hi hj
        by_cases ei : i = k
        · subst ei
          by_cases ej : j = i
          · exact ej.symm
          · rw [hUk] at h1
            rw [hUj j ej] at h2
            exact absurd ⟨e.2, e.1, LK.flip_edges.1 h1, j, hj, h2⟩ hns2
        · rw [hUj i ei] at h1
          by_cases ej : j = k
          · subst ej
            rw [hUk] at h2
            exact absurd ⟨e.2, e.1, LK.flip_edges.1 h2, i, hi, h1⟩ hns2
          · rw [hUj j ej] at h2
            exact hs i hi j hj e h1 h2
      · rintro ⟨a, b, h1, j, hj, h2⟩ hs'
        have hjk : j ≠ k := by
          rintro rfl
          have hpl := (hp.2 j hj).2
          have h3 : Fan.plain3 (trs T j) := hpl
          generalize trs T j = q at *
          obtain ⟨x, y, z⟩ := q
          simp only [Fan.edges3, Fan.plain3, List.mem_cons, List.not_mem_nil, or_false, Prod.mk.injEq] at *
          omega
        have := hs' k (by omega) j (by omega) (b, a) (by rw [hUk]; exact LK.flip_edges.2 h1) (by rw [hUj j hjk]; exact h2)
        exact hjk this.symm
    rw [← key]
    constructor
    · rintro rfl hs'
      cases hr with
      | edge _ _ h => exact h hs'
    · intro hns
      cases hr with
      | long h => omega
      | arg _ h => exact absurd hp' h
      | edge _ _ h => rfl
      | vertex _ _ h _ => exact absurd h hns
      | ok _ _ h _ => exact absurd h hns
theorem has_iff (T : List S36) (a b : Int) (hT : T.length ≤ 1000000) : ∃ r, Ev (fun k => lapidaryref10_Has.f k T a b) r ∧ (0 ≤ r ↔ ∃ j, j < T.length ∧ (a, b) ∈ Fan.edges3 (trs T j)) := by
  obtain ⟨r, h1, h2⟩ := MR.has_ev T a b hT
  refine ⟨r, h1, ?_⟩
  rcases h2 with ⟨h3, h4⟩ | ⟨m, h3, _, h5, h6, _⟩
  · exact ⟨fun h => by omega, fun ⟨j, hj, h⟩ => absurd h (h4 j (Nat.zero_le _) hj)⟩
  · exact ⟨fun _ => ⟨m, h5, h6⟩, fun _ => by omega⟩
theorem known_nowB : ((lapidarylaw10_known.f).bind fun t => some t) = some true := rfl
section
variable (P : List S55) (T : List S36) (hT : T.length ≤ 60) (ht : MR.Told P T 0)
include hT ht in
theorem fl_l1 (k : Nat) (hk : k < T.length) : Ev (fun n => lapidarylaw10_MeshFlips.l1 n (k : Int) false 0 P T P (T.set k (fl36 (T.getD k z36)))) true := by
  obtain ⟨r, hr, hrt⟩ := MR.check_ev P (T.set k (fl36 (T.getD k z36)))
  have h80 := one_told ht hk hrt
  have hq : trs T k = ((T.getD k z36).f0, (T.getD k z36).f1, (T.getD k z36).f2) := rfl
  have hmem : ∀ a b, (a, b) ∈ Fan.edges3 (trs T k) ↔ ((T.getD k z36).f0 = a ∧ (T.getD k z36).f1 = b) ∨ ((T.getD k z36).f1 = a ∧ (T.getD k z36).f2 = b) ∨ ((T.getD k z36).f2 = a ∧ (T.getD k z36).f0 = b) := fun a b => MR.edges_iff _ a b
  obtain ⟨t0, e0, i0⟩ := has_iff T (T.getD k z36).f1 (T.getD k z36).f0 (by omega)
  obtain ⟨t1, e1, i1⟩ := has_iff T (T.getD k z36).f2 (T.getD k z36).f1 (by omega)
  obtain ⟨t2, e2, i2⟩ := has_iff T (T.getD k z36).f0 (T.getD k z36).f2 (by omega)
  have hside : Side T k ↔ (0 ≤ t0 ∨ 0 ≤ t1 ∨ 0 ≤ t2) := by
    rw [i0, i1, i2]
    constructor
    · rintro ⟨a, b, h1, h2⟩
      rcases (hmem a b).1 h1 with ⟨rfl, rfl⟩ | ⟨rfl, rfl⟩ | ⟨rfl, rfl⟩
      · exact .inl h2
      · exact .inr (.inl h2)
      · exact .inr (.inr h2)
    · rintro (h | h | h)
      · exact ⟨_, _, (hmem _ _).2 (.inl ⟨rfl, rfl⟩), h⟩
      · exact ⟨_, _, (hmem _ _).2 (.inr (.inl ⟨rfl, rfl⟩)), h⟩
      · exact ⟨_, _, (hmem _ _).2 (.inr (.inr ⟨rfl, rfl⟩)), h⟩
  have H3 : ∀ b : Bool, (b = true ↔ Side T k) → Ev (fun n => lapidarylaw10_MeshFlips.l1 n (k : Int) b 3 P T P (T.set k (fl36 (T.getD k z36)))) true := by
    intro b hb
    have hbr : ((r == 80) == b) = true := by
      have : (r == 80) = b := by rw [Bool.eq_iff_iff, hb, ← h80, beq_iff_eq]
      rw [this]; exact beq_self_eq_true b
    refine Ev.step (f := fun n => (mesh_Check.f n P (T.set k (fl36 (T.getD k z36)))).bind fun t270 => (if ((t270 == 80) == b) = true then ((lapidarylaw10_known.f).bind fun t271 => (some t271)) else (some false))) (fun n => by rw [lapidarylaw10_MeshFlips.l1, if_neg (by omega)]) ?_
    exact Ev.bind (f := fun n t270 => (if ((t270 == 80) == b) = true then ((lapidarylaw10_known.f).bind fun t271 => (some t271)) else (some false))) hr (Ev.congr (fun n => if_pos hbr) (Ev.now _))
  have H2 : ∀ b : Bool, (b = true ↔ 0 ≤ t0 ∨ 0 ≤ t1) → Ev (fun n => lapidarylaw10_MeshFlips.l1 n (k : Int) b 2 P T P (T.set k (fl36 (T.getD k z36)))) true := by
    intro b hb
    cases b with
    | true => exact Ev.step (f := fun n => lapidarylaw10_MeshFlips.l1 n (k : Int) true 3 P T P (T.set k (fl36 (T.getD k z36)))) (fun n => by rw [lapidarylaw10_MeshFlips.l1, if_pos (by omega), if_pos rfl, MR.u2]) (H3 true (by rw [hside]; have := hb.1 rfl; exact ⟨fun _ => by omega, fun _ => rfl⟩))
    | false =>
      have hn : ¬ (0 ≤ t0 ∨ 0 ≤ t1) := fun h => by cases hb.2 h
      refine Ev.step (f := fun n => (lapidaryref10_Has.f n T (T.getD k z36).f0 (T.getD k z36).f2).bind fun t269 => (lapidarylaw10_MeshFlips.l1 n (k : Int) (decide (t269 ≥ 0)) 3 P T P (T.set k (fl36 (T.getD k z36))))) (fun n => by rw [lapidarylaw10_MeshFlips.l1, if_pos (by omega), if_neg (by decide), if_pos (by omega), if_pos (by omega), if_neg (by decide), if_neg (by decide), if_pos rfl, rd57, MR.u2]) ?_
      exact Ev.bind (f := fun n t269 => (lapidarylaw10_MeshFlips.l1 n (k : Int) (decide (t269 ≥ 0)) 3 P T P (T.set k (fl36 (T.getD k z36))))) e2 (H3 _ (by rw [hside, decide_eq_true_iff]; omega))
  have H1 : ∀ b : Bool, (b = true ↔ 0 ≤ t0) → Ev (fun n => lapidarylaw10_MeshFlips.l1 n (k : Int) b 1 P T P (T.set k (fl36 (T.getD k z36)))) true := by
    intro b hb
    cases b with
    | true => exact Ev.step (f := fun n => lapidarylaw10_MeshFlips.l1 n (k : Int) true 2 P T P (T.set k (fl36 (T.getD k z36)))) (fun n => by rw [lapidarylaw10_MeshFlips.l1, if_pos (by omega), if_pos rfl, MR.u1]) (H2 true (by have := hb.1 rfl; exact ⟨fun _ => by omega, fun _ => rfl⟩))
    | false =>
      have hn : ¬ (0 ≤ t0) := fun h => by cases hb.2 h
      refine Ev.step (f := fun n => (lapidaryref10_Has.f n T (T.getD k z36).f2 (T.getD k z36).f1).bind fun t267 => (lapidarylaw10_MeshFlips.l1 n (k : Int) (decide (t267 ≥ 0)) 2 P T P (T.set k (fl36 (T.getD k z36))))) (fun n => by rw [lapidarylaw10_MeshFlips.l1, if_pos (by omega), if_neg (by decide), if_pos (by omega), if_pos (by omega), if_neg (by decide), if_pos rfl, rd57, MR.u1]) ?_
      exact Ev.bind (f := fun n t267 => (lapidarylaw10_MeshFlips.l1 n (k : Int) (decide (t267 ≥ 0)) 2 P T P (T.set k (fl36 (T.getD k z36))))) e1 (H2 _ (by rw [decide_eq_true_iff]; omega))
  refine Ev.step (f := fun n => (lapidaryref10_Has.f n T (T.getD k z36).f1 (T.getD k z36).f0).bind fun t265 => (lapidarylaw10_MeshFlips.l1 n (k : Int) (decide (t265 ≥ 0)) 1 P T P (T.set k (fl36 (T.getD k z36))))) (fun n => by rw [lapidarylaw10_MeshFlips.l1, if_pos (by omega), if_neg (by decide), if_pos (by omega), if_pos (by omega), if_pos rfl, rd57, MR.u0]) ?_
  exact Ev.bind (f := fun n t265 => (lapidarylaw10_MeshFlips.l1 n (k : Int) (decide (t265 ≥ 0)) 1 P T P (T.set k (fl36 (T.getD k z36))))) e0 (H1 _ (by rw [decide_eq_true_iff]))
end
theorem fl_l0 (P : List S55) (T : List S36) (a : Int) (c : Int) (hP : P.length ≤ 40) (hT : T.length ≤ 60) (ha0 : 0 ≤ a) (ha1 : a < 256) (ht : MR.Told P T c) : ∀ d i : Nat, ∀ V : List S36, i + d = T.length → V.length = T.length → (∀ j, j < i → V.getD j z36 = fl36 (T.getD j z36)) → (∀ j, i ≤ j → V.getD j z36 = T.getD j z36) → Ev (fun k => lapidarylaw10_MeshFlips.l0 k a c (i : Int) P T P V) true := by
  intro d
  induction d with
  | zero =>
    intro i V hi hl hv _
    obtain ⟨r, hr, hrt⟩ := MR.check_ev P V
    have hrc : r = c := told_unique hrt (flip_told ht hl fun j hj => hv j (by omega))
    subst hrc
    have hj1t : Ev (fun k => lapidarylaw10_MeshFlips.j1 k a true P T P V) true := Ev.step (f := fun _ => some true) (fun k => by rw [lapidarylaw10_MeshFlips.j1, if_pos rfl]; rfl) (Ev.now _)
    have hjr : Ev (fun k => if r = 0 then (lapidarylaw10_MeshFlips.j1 k a ((T.length : Int) == 0) P T P V) else (lapidarylaw10_MeshFlips.j1 k a true P T P V)) true := by
      by_cases h0 : r = 0
      · subst h0
        refine Ev.congr (fun k => if_pos rfl) ?_
        by_cases hn : T.length = 0
        · rw [hn]; exact hj1t
        · have hb : ((T.length : Int) == 0) = false := beq_false_of_ne (by omega)
          rw [hb]
          have hcp : mesh_Copy.f P T = some (P, T) := by unfold mesh_Copy.f; rw [if_pos ⟨by omega, by omega⟩]
          obtain ⟨m, hm⟩ : ∃ m : Nat, Int.tmod (wrap64 a) (T.length : Int) = m ∧ m < T.length := by
            have h1 : wrap64 a = a := by unfold wrap64; omega
            rw [h1, Int.tmod_eq_emod_of_nonneg ha0]
            have h2 := Int.emod_nonneg a (show (T.length : Int) ≠ 0 by omega)
            have h3 := Int.emod_lt_of_pos a (show (0 : Int) < T.length by omega)
            exact ⟨(a % T.length).toNat, by omega, by omega⟩
          refine Ev.step (f := fun k => lapidarylaw10_MeshFlips.l1 k (m : Int) false 0 P T P (T.set m (fl36 (T.getD m z36)))) (fun k => ?_) (fl_l1 P T hT ht m hm.2)
          rw [lapidarylaw10_MeshFlips.j1, if_neg (by decide), if_neg (by omega), hcp, Option.bind_some, hm.1]
          dsimp only
          rw [if_pos (by omega), if_pos (by omega), if_pos (by omega), rd57, hv m (by omega), Int.toNat_natCast]
      · exact Ev.congr (fun k => if_neg h0) hj1t
    refine Ev.step (f := fun k => (mesh_Check.f k P V).bind fun t252 => (if t252 = r then (if r = 0 then (lapidarylaw10_MeshFlips.j1 k a ((T.length : Int) == 0) P T P V) else (lapidarylaw10_MeshFlips.j1 k a true P T P V)) else (some false))) (fun k => by rw [lapidarylaw10_MeshFlips.l0, if_neg (by omega)]) ?_
    exact Ev.bind (f := fun k t252 => (if t252 = r then (if r = 0 then (lapidarylaw10_MeshFlips.j1 k a ((T.length : Int) == 0) P T P V) else (lapidarylaw10_MeshFlips.j1 k a true P T P V)) else (some false))) hr (Ev.congr (fun k => if_pos rfl) hjr)
  | succ d ih =>
    intro i V hi hl hv hv2
    refine Ev.step (f := fun k => lapidarylaw10_MeshFlips.l0 k a c ((i + 1 : Nat) : Int) P T P (V.set i (fl36 (T.getD i z36)))) (fun k => ?_) (ih (i + 1) _ (by omega) (by rw [List.length_set]; exact hl) (fun j hj => ?_) (fun j hj => ?_))
    · rw [lapidarylaw10_MeshFlips.l0, if_pos (by omega), if_pos (by omega), if_pos (by omega), w1 (by omega), rd57, Int.toNat_natCast]
      rfl
    · rw [getD_set (by omega)]
      by_cases e : j = i
      · rw [if_pos e, e]
      · rw [if_neg e]; exact hv j (by omega)
    · rw [getD_set (by omega), if_neg (by omega)]
      exact hv2 j (by omega)
theorem meshFlips (P : List S55) (T : List S36) (a : Int) (ha0 : 0 ≤ a) (ha1 : a < 256) : ∃ k, lapidarylaw10_MeshFlips.f k P T a = some true := by
  by_cases g1 : (P.length : Int) > 40
  · exact ⟨0, by unfold lapidarylaw10_MeshFlips.f lapidarylaw10_long.f; rw [if_pos g1, Option.bind_some, if_pos rfl]; exact known_nowB⟩
  by_cases g2 : (T.length : Int) > 60
  · exact ⟨0, by unfold lapidarylaw10_MeshFlips.f lapidarylaw10_long.f; rw [if_neg g1, Option.bind_some, decide_eq_true g2, if_pos rfl]; exact known_nowB⟩
  obtain ⟨c, hc, ht⟩ := MR.check_ev P T
  have hcp : mesh_Copy.f P T = some (P, T) := by unfold mesh_Copy.f; rw [if_pos ⟨by omega, by omega⟩]
  have h0 := fl_l0 P T a c (by omega) (by omega) ha0 ha1 ht T.length 0 T (by omega) rfl (fun j hj => by omega) (fun j _ => rfl)
  refine Ev.rounds (Ev.congr (fun k => ?_) (Ev.bind (f := fun k t241 => (lapidarylaw10_MeshFlips.l0 k a t241 0 P T P T)) hc h0))
  unfold lapidarylaw10_MeshFlips.f lapidarylaw10_long.f
  rw [if_neg g1, Option.bind_some, decide_eq_false g2, if_neg (by decide)]
  congr 1
  funext t
  rw [hcp, Option.bind_some, if_pos rfl]
end Go.Proofs.YtckemiefcdpofaaDoor.ML
