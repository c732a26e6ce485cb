import Derived.Test.YtckemiefcdpofaaDoorPMsrx21
import Derived.Test.YtckemiefcdpofaaDoorMeshLawsC
namespace Go.Proofs.YtckemiefcdpofaaDoor.ML
open Go Go.RowKit Go.Proofs.YtckemiefcdpofaaDoor.PMsr Go.Proofs.YtckemiefcdpofaaDoorW.PrintWords Go.Proofs.YtckemiefcdpofaaDoorW.PrintLast Go.Proofs.YtckemiefcdpofaaDoorW.PrintMore
open Go.Proofs.YtckemiefcdpofaaDoor.MR (EvB EvP rd57 w1 Plain Single Round good_of)
open Go.Proofs.YtckemiefcdpofaaDoor.MM
open Go.Proofs.YtckemiefcdpofaaDoor.ED (edgesOf borderOf raw edU ed)
set_option linter.unusedVariables false
set_option linter.unusedSimpArgs false
def sh (n : Int) (q : S36) : S36 := ⟨q.f0 + n, q.f1 + n, q.f2 + n⟩
def both (n : Int) (T U : List S36) : List S36 := T ++ U.map (sh n)
theorem both_l {n : Int} {T U : List S36} {i : Nat} (hi : i < T.length) : (both n T U).getD i z36 = T.getD i z36 := by
  unfold both
  rw [List.getD_eq_getElem?_getD, List.getD_eq_getElem?_getD, List.getElem?_append_left hi]
theorem both_r {n : Int} {T U : List S36} {i : Nat} (hi : i < U.length) : (both n T U).getD (T.length + i) z36 = sh n (U.getD i z36) := by
  unfold both
  rw [List.getD_eq_getElem?_getD, List.getD_eq_getElem?_getD, List.getElem?_append_right (by omega), List.getElem?_map, show T.length + i - T.length = i by omega, List.getElem?_eq_getElem hi]
  rfl
theorem trs_l {n : Int} {T U : List S36} {i : Nat} (hi : i < T.length) : trs (both n T U) i = trs T i := by unfold trs; rw [both_l hi]
theorem trs_r {n : Int} {T U : List S36} {i : Nat} (hi : i < U.length) : trs (both n T U) (T.length + i) = LK.map3 (fun v => v + n) (trs U i) := by unfold trs; rw [both_r hi]; rfl
theorem both_len (n : Int) (T U : List S36) : (both n T U).length = T.length + U.length := by simp [both]
theorem whole_map {A B : Fan.At} (σ : Nat → Nat) (hs : ∀ i, i ∈ B.as → σ i ∈ A.as) (ho : ∀ j, j ∈ A.as → ∃ i, i ∈ B.as ∧ σ i = j) (ha : ∀ i, i ∈ B.as → ∀ j, j ∈ B.as → Fan.adj B i j → Fan.adj A (σ i) (σ j)) (h : Fan.Whole B) : Fan.Whole A := by
  intro a' ha' x' hx' S hS hC
  obtain ⟨a, ha1, rfl⟩ := ho a' ha'
  obtain ⟨x, hx1, rfl⟩ := ho x' hx'
  exact h a ha1 x hx1 (fun z => S (σ z)) hS fun z hz u hu hz2 hadj => hC (σ z) (hs z hz) (σ u) (hs u hu) hz2 (ha z hz u hu hadj)
theorem map_frT {n : Int} {q : Int × Int × Int} {v : Int} : Fan.frT (LK.map3 (fun v => v + n) q) (v + n) = Fan.frT q v + n ∧ Fan.toT (LK.map3 (fun v => v + n) q) (v + n) = Fan.toT q v + n := by
  obtain ⟨a, b, c⟩ := q
  unfold Fan.frT Fan.toT LK.map3
  dsimp only
  constructor
  · by_cases h1 : a = v
    · rw [if_pos h1, if_pos (by omega)]
    · rw [if_neg h1, if_neg (by omega)]
      by_cases h2 : b = v
      · rw [if_pos h2, if_pos (by omega)]
      · rw [if_neg h2, if_neg (by omega)]
  · by_cases h1 : a = v
    · rw [if_pos h1, if_pos (by omega)]
    · rw [if_neg h1, if_neg (by omega)]
      by_cases h2 : b = v
      · rw [if_pos h2, if_pos (by omega)]
      · rw [if_neg h2, if_neg (by omega)]
theorem both_told {P Q : List S55} {T U : List S36} (h1 : MR.Told P T 0) (h2 : MR.Told Q U 0) (hP : P.length ≤ 40) (hQ : Q.length ≤ 40) (hT : T.length ≤ 60) (hU : U.length ≤ 60) : MR.Told (P ++ Q) (both P.length T U) 0 := by
  generalize h0 : (0 : Int) = c at h1 h2
  cases h1 with
  | long h => cases h0
  | arg _ h => cases h0
  | edge _ _ h => cases h0
  | vertex _ _ _ h => cases h0
  | ok hl1 hp1 hs1 hr1 =>
    cases h2 with
    | ok hl2 hp2 hs2 hr2 =>
      have cases_ : ∀ i, i < (both P.length T U).length → (i < T.length ∧ trs (both P.length T U) i = trs T i) ∨ ∃ j, j < U.length ∧ i = T.length + j ∧ trs (both P.length T U) i = LK.map3 (fun v => v + P.length) (trs U j) := by
        intro i hi
        rw [both_len] at hi
        by_cases h : i < T.length
        · exact .inl ⟨h, trs_l h⟩
        · exact .inr ⟨i - T.length, by omega, by omega, by rw [← trs_r (T := T) (show i - T.length < U.length by omega), show T.length + (i - T.length) = i by omega]⟩
      have b1 : ∀ i, i < T.length → ∀ v, Fan.has3 (trs T i) v = true → 0 ≤ v ∧ v < P.length := fun i hi => (LK.triOk_iff.1 (hp1.2 i hi)).2
      have b2 : ∀ i, i < U.length → ∀ v, Fan.has3 (trs U i) v = true → 0 ≤ v ∧ v < Q.length := fun i hi => (LK.triOk_iff.1 (hp2.2 i hi)).2
      have hp : Plain (P ++ Q) (both P.length T U) := by
        constructor
        · intro i hi
          rw [List.length_append] at hi
          rw [List.getD_eq_getElem?_getD]
          by_cases h : i < P.length
          · rw [List.getElem?_append_left h, ← List.getD_eq_getElem?_getD]
            exact hp1.1 i h
          · rw [List.getElem?_append_right (by omega), ← List.getD_eq_getElem?_getD]
            exact hp2.1 (i - P.length) (by omega)
        · intro i hi
          refine LK.triOk_iff.2 ?_
          show Fan.plain3 (trs (both P.length T U) i) ∧ ∀ v, Fan.has3 (trs (both P.length T U) i) v = true → 0 ≤ v ∧ v < ((P ++ Q).length : Int)
          rw [List.length_append]
          rcases cases_ i hi with ⟨h3, h4⟩ | ⟨j, h3, h4, h5⟩
          · rw [h4]
            refine ⟨(hp1.2 i h3).2, fun v hv => ?_⟩
            have := b1 i h3 v hv
            omega
          · rw [h5]
            refine ⟨?_, fun v hv => ?_⟩
            · obtain ⟨e1, e2, e3⟩ := (hp2.2 j h3).2
              unfold trs trT LK.map3 Fan.plain3
              dsimp only
              omega
            · obtain ⟨u, hu, rfl⟩ := LK.map_has.1 hv
              have := b2 j h3 u hu
              omega
      have hs : Single (both P.length T U) := by
        intro i hi j hj e he he2
        have mixed : ∀ i j, i < T.length → j < U.length → e ∈ Fan.edges3 (trs T i) → e ∈ Fan.edges3 (LK.map3 (fun v => v + P.length) (trs U j)) → False := by
          intro i j hi hj h3 h4
          obtain ⟨a, b, h5, rfl⟩ := LK.map_edges.1 h4
          have h6 := b1 i hi _ (LK.edge_has h3).1
          have h7 := b2 j hj _ (LK.edge_has h5).1
          omega
        rcases cases_ i hi with ⟨h3, h4⟩ | ⟨x, h3, h4, h5⟩
        · rw [h4] at he
          rcases cases_ j hj with ⟨h6, h7⟩ | ⟨y, h6, h7, h8⟩
          · rw [h7] at he2
            exact hs1 i h3 j h6 e he he2
          · rw [h8] at he2
            exact (mixed i y h3 h6 he he2).elim
        · rw [h5] at he
          rcases cases_ j hj with ⟨h6, h7⟩ | ⟨y, h6, h7, h8⟩
          · rw [h7] at he2
            exact (mixed j x h6 h3 he2 he).elim
          · rw [h8] at he2
            obtain ⟨a, b, h9, rfl⟩ := LK.map_edges.1 he
            obtain ⟨a', b', h10, h11⟩ := LK.map_edges.1 he2
            simp only [Prod.mk.injEq] at h11
            have e1 : a = a' := by omega
            have e2 : b = b' := by omega
            subst e1; subst e2
            rw [h4, h7, hs2 x h3 y h6 (a, b) h9 h10]
      rw [h0]
      refine .ok ⟨by rw [List.length_append]; omega, by rw [both_len]; omega⟩ hp hs ?_
      intro v hv
      rw [List.length_append] at hv
      have hn := both_len (P.length : Int) T U
      by_cases hvP : v < P.length
      · obtain ⟨h3, h4⟩ := hr1 v hvP
        have hin : ∀ i, i ∈ Fan.atV (trs (both P.length T U)) (both P.length T U).length (v : Int) ↔ i ∈ Fan.atV (trs T) T.length (v : Int) := by
          intro i
          rw [Fan.mem_atV, Fan.mem_atV]
          constructor
          · rintro ⟨h5, h6⟩
            rcases cases_ i h5 with ⟨h7, h8⟩ | ⟨x, h7, h8, h9⟩
            · rw [h8] at h6; exact ⟨h7, h6⟩
            · rw [h9] at h6
              obtain ⟨u, hu, h10⟩ := LK.map_has.1 h6
              have := b2 x h7 u hu
              omega
          · rintro ⟨h5, h6⟩
            exact ⟨by omega, by rw [trs_l h5]; exact h6⟩
        refine ⟨?_, whole_map (B := Fan.atF (good_of hp1 hs1) v) (fun i => i) (fun i hi => (hin i).2 hi) (fun j hj => ⟨j, (hin j).1 hj, rfl⟩) (fun i hi j hj hadj => ?_) h4⟩
        · obtain ⟨x, hx⟩ := List.length_pos_iff_exists_mem.1 h3
          exact List.length_pos_iff_exists_mem.2 ⟨x, (hin x).2 hx⟩
        · have hi1 := (Fan.mem_atV.1 (show i ∈ Fan.atV (trs T) T.length (v : Int) from hi)).1
          have hj1 := (Fan.mem_atV.1 (show j ∈ Fan.atV (trs T) T.length (v : Int) from hj)).1
          unfold Fan.adj Fan.atF at *
          dsimp only at *
          rw [trs_l hi1, trs_l hj1]
          exact hadj
      · obtain ⟨u, rfl⟩ : ∃ u, v = P.length + u := ⟨v - P.length, by omega⟩
        obtain ⟨h3, h4⟩ := hr2 u (by omega)
        have hcast : ((P.length + u : Nat) : Int) = (u : Int) + P.length := by omega
        have hin : ∀ i, i ∈ Fan.atV (trs (both P.length T U)) (both P.length T U).length ((P.length + u : Nat) : Int) ↔ ∃ j, j ∈ Fan.atV (trs U) U.length (u : Int) ∧ T.length + j = i := by
          intro i
          rw [Fan.mem_atV]
          constructor
          · rintro ⟨h5, h6⟩
            rcases cases_ i h5 with ⟨h7, h8⟩ | ⟨x, h7, h8, h9⟩
            · rw [h8] at h6
              have := b1 i h7 _ h6
              omega
            · rw [h9] at h6
              obtain ⟨y, hy, h10⟩ := LK.map_has.1 h6
              have : y = u := by omega
              rw [this] at hy
              exact ⟨x, Fan.mem_atV.2 ⟨h7, hy⟩, h8.symm⟩
          · rintro ⟨j, hj, rfl⟩
            obtain ⟨h5, h6⟩ := Fan.mem_atV.1 hj
            exact ⟨by omega, by rw [trs_r h5, hcast]; exact LK.map_has.2 ⟨u, h6, rfl⟩⟩
        refine ⟨?_, whole_map (B := Fan.atF (good_of hp2 hs2) u) (fun i => T.length + i) (fun i hi => (hin _).2 ⟨i, hi, rfl⟩) (fun j hj => (hin j).1 hj) (fun i hi j hj hadj => ?_) h4⟩
        · obtain ⟨x, hx⟩ := List.length_pos_iff_exists_mem.1 h3
          exact List.length_pos_iff_exists_mem.2 ⟨_, (hin _).2 ⟨x, hx, rfl⟩⟩
        · have hi1 := (Fan.mem_atV.1 (show i ∈ Fan.atV (trs U) U.length (u : Int) from hi)).1
          have hj1 := (Fan.mem_atV.1 (show j ∈ Fan.atV (trs U) U.length (u : Int) from hj)).1
          unfold Fan.adj Fan.atF at *
          dsimp only at *
          rw [trs_r hi1, trs_r hj1, hcast, map_frT.1, map_frT.2, map_frT.1, map_frT.2]
          omega
    | _ => cases h0
theorem both_edges {P Q : List S55} {T U : List S36} (h1 : MR.Told P T 0) (h2 : MR.Told Q U 0) : (edgesOf (both P.length T U)).length = (edgesOf T).length + (edgesOf U).length := by
  obtain ⟨_, _, hp1, hs1⟩ := ED.told_ok h1
  obtain ⟨_, _, hp2, hs2⟩ := ED.told_ok h2
  have e1 : edgesOf (both P.length T U) = edgesOf T ++ (edgesOf U).map fun x : Int × Int => (x.1 + (P.length : Int), x.2 + (P.length : Int)) := by
    refine EP.edgesOf_eq ?_ fun x => ?_
    · unfold EP.Up
      rw [List.pairwise_append]
      refine ⟨EP.edgesOf_up T, ?_, fun x hx y hy => ?_⟩
      · rw [List.pairwise_map]
        refine (EP.edgesOf_up U).imp fun {a b} h => ?_
        unfold EP.lt at *
        dsimp only
        omega
      · obtain ⟨z, hz, rfl⟩ := List.mem_map.1 hy
        have h3 := (mem_raw hp1).1 (EP.mem_edgesOf.1 hx)
        have h4 := (mem_raw hp2).1 (EP.mem_edgesOf.1 hz)
        have h5 : x.1 < P.length := by
          rcases h3.2 with h | h
          · exact (hasE_in hp1 h).1.2
          · exact (hasE_in hp1 h).2.2
        have h6 : 0 ≤ z.1 := by
          rcases h4.2 with h | h
          · exact (hasE_in hp2 h).1.1
          · exact (hasE_in hp2 h).2.1
        unfold EP.lt
        dsimp only
        omega
    · rw [List.mem_append, EP.mem_edgesOf, List.mem_map]
      unfold raw both
      rw [List.flatMap_append, List.mem_append]
      refine or_congr Iff.rfl ?_
      rw [List.mem_flatMap]
      have hed : ∀ a b : Int, ed (a + P.length) (b + P.length) = ((ed a b).1 + P.length, (ed a b).2 + P.length) := fun a b => by unfold ed; simp only [Prod.mk.injEq]; omega
      constructor
      · rintro ⟨z, hz, rfl⟩
        have hz2 := EP.mem_edgesOf.1 hz
        unfold raw at hz2
        obtain ⟨q, hq, hzq⟩ := List.mem_flatMap.1 hz2
        refine ⟨sh P.length q, List.mem_map.2 ⟨q, hq, rfl⟩, ?_⟩
        unfold edU at *
        simp only [List.mem_cons, List.not_mem_nil, or_false, sh, hed] at *
        rcases hzq with rfl | rfl | rfl
        · exact .inl rfl
        · exact .inr (.inl rfl)
        · exact .inr (.inr rfl)
      · rintro ⟨q, hq, hx⟩
        obtain ⟨q', hq', rfl⟩ := List.mem_map.1 hq
        unfold edU at hx
        simp only [List.mem_cons, List.not_mem_nil, or_false, sh, hed] at hx
        have hm : ∀ y, y ∈ edU q' → y ∈ edgesOf U := fun y hy => EP.mem_edgesOf.2 (by unfold raw; exact List.mem_flatMap.2 ⟨q', hq', hy⟩)
        unfold edU at hm
        rcases hx with rfl | rfl | rfl
        · exact ⟨_, hm _ (by simp), rfl⟩
        · exact ⟨_, hm _ (by simp), rfl⟩
        · exact ⟨_, hm _ (by simp), rfl⟩
  rw [e1, List.length_append, List.length_map]
theorem told_one {P : List S55} {T : List S36} {c d : Int} (h : MR.Told P T c) (k : MR.Told P T d) : c = d := by
  cases h <;> cases k <;> first | rfl | omega | (exfalso; contradiction)
section
variable (P : List S55) (T : List S36) (Q : List S55) (U : List S36) (h1 : MR.Told P T 0) (h2 : MR.Told Q U 0) (hP : P.length ≤ 40) (hQ : Q.length ≤ 40) (hT : T.length ≤ 60) (hU : U.length ≤ 60)
include h1 h2 hP hQ hT hU in
theorem eu_end : Ev (fun k => lapidarylaw10_MeshEulers.l0 k (U.length : Int) P T Q U (P ++ Q) (both P.length T U)) true := by
  have hb := both_told h1 h2 hP hQ hT hU
  have he := both_edges h1 h2
  have c1 : chk P T = 0 := told_one (chk_told P T) h1
  have c2 : chk Q U = 0 := told_one (chk_told Q U) h2
  have c3 : chk (P ++ Q) (both P.length T U) = 0 := told_one (chk_told _ _) hb
  have e1 := ED.edgesOf_len T
  have e2 := ED.edgesOf_len U
  refine Ev.step (f := fun _ => some true) (fun k => ?_) (Ev.now _)
  rw [lapidarylaw10_MeshEulers.l0, if_neg (by omega)]
  unfold mesh_Euler.f
  rw [c1, c2, c3]
  simp only [Option.bind_some, if_true]
  rw [if_pos]
  · rfl
  · rw [he, both_len, List.length_append]
    unfold wrap64
    omega
include h1 h2 hP hQ hT hU in
theorem eu_l0 : ∀ d i : Nat, i + d = U.length → Ev (fun k => lapidarylaw10_MeshEulers.l0 k (i : Int) P T Q U (P ++ Q) (both P.length T (U.take i))) true := by
  obtain ⟨_, _, hp2, _⟩ := ED.told_ok h2
  intro d
  induction d with
  | zero =>
    intro i hi
    have e : i = U.length := by omega
    subst e
    rw [List.take_length]
    exact eu_end P T Q U h1 h2 hP hQ hT hU
  | succ d ih =>
    intro i hi
    have hq := (hp2.2 i (by omega)).1
    have hb : both P.length T (U.take i) ++ [(⟨wrap64 ((U.getD i z36).f0 + (P.length : Int)), wrap64 ((U.getD i z36).f1 + (P.length : Int)), wrap64 ((U.getD i z36).f2 + (P.length : Int))⟩ : S36)] = both P.length T (U.take (i + 1)) := by
      have hw : ∀ x : Int, 0 ≤ x ∧ x < Q.length → wrap64 (x + P.length) = x + P.length := fun x hx => by unfold wrap64; omega
      rw [hw _ hq.1, hw _ hq.2.1, hw _ hq.2.2]
      unfold both
      rw [List.append_assoc, List.take_succ_eq_append_getElem (by omega), List.map_append, List.getD_eq_getElem?_getD, List.getElem?_eq_getElem (by omega)]
      rfl
    refine Ev.step (fun k => ?_) (ih (i + 1) (by omega))
    rw [lapidarylaw10_MeshEulers.l0, if_pos (by omega), if_pos (by omega), if_pos (by rw [both_len, List.length_take]; omega), rd57, w1 (by omega), hb]
end
theorem meshEulers (P : List S55) (T : List S36) (Q : List S55) (U : List S36) : ∃ k, lapidarylaw10_MeshEulers.f k P T Q U = some true := by
  have hlong : Ev (fun k => lapidarylaw10_MeshEulers.j0 k true P T Q U) true := Ev.step (f := fun _ => some true) (fun k => by rw [lapidarylaw10_MeshEulers.j0, if_pos rfl]; rfl) (Ev.now _)
  by_cases g1 : (P.length : Int) > 40
  · refine Ev.rounds (Ev.congr (fun k => ?_) hlong)
    unfold lapidarylaw10_MeshEulers.f lapidarylaw10_long.f
    rw [if_pos g1, Option.bind_some, if_pos rfl]
  by_cases g2 : (T.length : Int) > 60
  · refine Ev.rounds (Ev.congr (fun k => ?_) hlong)
    unfold lapidarylaw10_MeshEulers.f lapidarylaw10_long.f
    rw [if_neg g1, Option.bind_some, decide_eq_true g2, if_pos rfl]
  by_cases g4 : (Q.length : Int) > 40
  · refine Ev.rounds (Ev.congr (fun k => ?_) hlong)
    unfold lapidarylaw10_MeshEulers.f lapidarylaw10_long.f
    rw [if_neg g1, Option.bind_some, decide_eq_false g2, if_neg (by decide), if_pos g4, Option.bind_some, if_pos rfl]
  by_cases g5 : (U.length : Int) > 60
  · refine Ev.rounds (Ev.congr (fun k => ?_) hlong)
    unfold lapidarylaw10_MeshEulers.f lapidarylaw10_long.f
    rw [if_neg g1, Option.bind_some, decide_eq_false g2, if_neg (by decide), if_neg g4, Option.bind_some, decide_eq_true g5, if_pos rfl]
  obtain ⟨c, hc, ht⟩ := MR.check_ev P T
  obtain ⟨d, hd, hu⟩ := MR.check_ev Q U
  have hj : Ev (fun k => if c = 0 then ((mesh_Check.f k Q U).bind fun t235 => (lapidarylaw10_MeshEulers.j0 k (t235 != 0) P T Q U)) else (lapidarylaw10_MeshEulers.j0 k true P T Q U)) true := by
    by_cases h0 : c = 0
    · subst h0
      refine Ev.congr (fun k => if_pos rfl) ?_
      refine Ev.bind (f := fun k t235 => (lapidarylaw10_MeshEulers.j0 k (t235 != 0) P T Q U)) hd ?_
      by_cases h3 : d = 0
      · subst h3
        have h4 := eu_l0 P T Q U ht hu (by omega) (by omega) (by omega) (by omega) U.length 0 (by omega)
        refine Ev.step (f := fun k => lapidarylaw10_MeshEulers.l0 k 0 P T Q U (P ++ Q) (both P.length T (U.take 0))) (fun k => ?_) h4
        rw [lapidarylaw10_MeshEulers.j0, if_neg (by decide), if_pos (by simp; omega), Option.bind_some, if_pos (by simp; omega), if_pos (by simp; omega)]
        simp [both]
      · rw [show (d != 0) = true from bne_iff_ne.2 h3]
        exact hlong
    · exact Ev.congr (fun k => if_neg h0) hlong
  refine Ev.rounds (Ev.congr (fun k => ?_) (Ev.bind (f := fun k t234 => if t234 = 0 then ((mesh_Check.f k Q U).bind fun t235 => (lapidarylaw10_MeshEulers.j0 k (t235 != 0) P T Q U)) else (lapidarylaw10_MeshEulers.j0 k true P T Q U)) hc hj))
  unfold lapidarylaw10_MeshEulers.f lapidarylaw10_long.f
  rw [if_neg g1, Option.bind_some, decide_eq_false g2, if_neg (by decide), if_neg g4, Option.bind_some, decide_eq_false g5, if_neg (by decide)]
  rfl
end Go.Proofs.YtckemiefcdpofaaDoor.ML
