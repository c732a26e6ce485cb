import Derived.Test.YtomknjmgcbbjlaaDoorWalkOneP
import Derived.Test.YtomknjmgcbbjlaaDoorPWlkx16
namespace Go.Proofs.YtomknjmgcbbjlaaDoor.WL
open Go Go.RowKit Go.Proofs.YtomknjmgcbbjlaaDoor.PWlk Go.Proofs.YtomknjmgcbbjlaaDoorW.PrintWords Go.Proofs.YtomknjmgcbbjlaaDoorW.PrintLast Go.Proofs.YtomknjmgcbbjlaaDoorW.PrintMore
open Go.Proofs.YtomknjmgcbbjlaaDoor.MR (EvB EvP rd45 rd57 w1 Plain PtOk)
open Go.Proofs.YtomknjmgcbbjlaaDoor.MM (trs trT)
open Go.Proofs.YtomknjmgcbbjlaaDoor.RF (Ev.if_yes Ev.if_no Ev.some_bind lk)
open Go.Proofs.YtomknjmgcbbjlaaDoor.WP (fnd add Tab)
open Go.Proofs.YtomknjmgcbbjlaaDoor.WW (to47 to62 to107 surf_of tab_of Surf)
set_option linter.unusedVariables false
set_option linter.unusedSimpArgs false
set_option maxRecDepth 100000
theorem lk_one (t : S47) (a b : Int) (h : (a, b) ∈ Fan.edges3 (trT t)) : lk [t] (a, b) = 0 := by
  have : MC.look [t] (a, b) = some 0 := by
    unfold MC.look
    rw [List.find?_range_eq_some]
    exact ⟨decide_eq_true (show (a, b) ∈ Fan.edges3 (trs [t] 0) from h), List.mem_range.2 (by simp), fun j hj => absurd hj (Nat.not_lt_zero _)⟩
  unfold lk
  rw [this]
  rfl
theorem seen_set {seen : List Bool} {V : List Int} {n i : Nat} (hs : seen.length = n) (h : ∀ v : Nat, v < n → seen.getD v false = decide ((v : Int) ∈ V.take i)) (hi : i < V.length) (h0 : 0 ≤ V[i]) (h1 : V[i] < n) : (seen.set V[i].toNat true).length = n ∧ ∀ v : Nat, v < n → (seen.set V[i].toNat true).getD v false = decide ((v : Int) ∈ V.take (i + 1)) := by
  refine ⟨by rw [List.length_set]; exact hs, fun v hv => ?_⟩
  have hv2 := h v hv
  rw [List.getD_eq_getElem?_getD] at hv2 ⊢
  rw [List.getElem?_set, List.take_succ_eq_append_getElem hi]
  by_cases e : V[i].toNat = v
  · rw [if_pos e, if_pos (by omega)]
    have : (v : Int) = V[i] := by omega
    rw [this]
    exact (decide_eq_true (List.mem_append_right _ (List.mem_singleton.2 rfl))).symm
  · rw [if_neg e, hv2]
    have : ¬ (v : Int) = V[i] := by omega
    exact decide_eq_decide.2 ⟨List.mem_append_left _, fun hm => (List.mem_append.1 hm).resolve_right (fun h => this (List.mem_singleton.1 h))⟩
theorem not_seen {seen : List Bool} {V : List Int} {n i : Nat} (h : ∀ v : Nat, v < n → seen.getD v false = decide ((v : Int) ∈ V.take i)) (hn : V.Nodup) (hi : i < V.length) (h0 : 0 ≤ V[i]) (h1 : V[i] < n) : rdOf false seen V[i] = false := by
  unfold rdOf
  rw [h V[i].toNat (by omega), show ((V[i].toNat : Nat) : Int) = V[i] by omega]
  refine decide_eq_false fun hm => ?_
  obtain ⟨j, hj, he⟩ := List.mem_iff_getElem.1 hm
  rw [List.length_take] at hj
  rw [List.getElem_take] at he
  exact (List.pairwise_iff_getElem.1 hn) j i (by omega) hi (by omega) he
theorem none_seen (n : Nat) (V : List Int) : (List.replicate n false).length = n ∧ ∀ v : Nat, v < n → (List.replicate n false).getD v false = decide ((v : Int) ∈ V.take 0) := by
  refine ⟨List.length_replicate, fun v hv => ?_⟩
  rw [List.getD_eq_getElem?_getD, List.getElem?_replicate, if_pos hv]
  simp
section
variable {P : List S46} {T : List S47} (h : chk P T = 0)
include h
theorem O_in (i : Nat) (hi : i < (wk T).O.length) : (wk T).O[i] < T.length := (WP.fin_O (tab_is h)).1 (List.getElem_mem hi)
theorem O_len : (wk T).O.length = T.length := WP.fin_Olen (tab_is h)
noncomputable def OI (T : List S47) : List Int := (wk T).O.map fun i : Nat => (i : Int)
theorem OI_len : (OI T).length = T.length := by unfold OI; rw [List.length_map]; exact O_len h
theorem OI_nd : (OI T).Nodup := by
  unfold OI
  rw [List.Nodup, List.pairwise_map]
  exact List.Pairwise.imp (fun h e => h (by omega)) (WP.fin_inv (tab_is h)).ond
theorem OI_get (i : Nat) (hi : i < T.length) : ∃ t : Nat, (OI T)[i]? = some (t : Int) ∧ t < T.length ∧ ∃ a b c : Int, (wk T).R[i]? = some (a, b, c) ∧ LK.Rot (trs T t) (a, b, c) ∧ a ∈ (wk T).V ∧ b ∈ (wk T).V ∧ c ∈ (wk T).V ∧ (cT P T).getD i z47 = ⟨fnd (wk T).V a, fnd (wk T).V b, fnd (wk T).V c⟩ := by
  have hT := tab_is h
  have hI := WP.fin_inv hT
  have h1 : i < (wk T).O.length := by rw [O_len h]; exact hi
  have h2 : i < (wk T).R.length := by have := WP.fin_Rlen hT; show i < (WP.fin _ _ _).R.length; omega
  obtain ⟨t, ht⟩ : ∃ t, (wk T).R[i] = t := ⟨_, rfl⟩
  obtain ⟨a, b, c⟩ := t
  have hR : (wk T).R[i]? = some (a, b, c) := by rw [List.getElem?_eq_getElem h2, ht]
  have hm : (a, b, c) ∈ (wk T).R := ht ▸ List.getElem_mem h2
  refine ⟨(wk T).O[i], ?_, O_in h i h1, a, b, c, hR, hI.rot i _ _ (List.getElem?_eq_getElem h1) hR, hI.vR hm (by simp [Fan.has3]), hI.vR hm (by simp [Fan.has3]), hI.vR hm (by simp [Fan.has3]), ?_⟩
  · unfold OI
    rw [List.getElem?_map, List.getElem?_eq_getElem h1]
    rfl
  · rw [cT_eq h, List.getD_eq_getElem?_getD, List.getElem?_map]
    have : (wk T).T[i]? = some (fnd (wk T).V a, fnd (wk T).V b, fnd (wk T).V c) := by
      have e : (wk T).T = (wk T).R.map (LK.map3 (fnd (wk T).V)) := hI.tm
      rw [e, List.getElem?_map, hR]
      rfl
    rw [this]
    rfl
omit h in
theorem V_at {a : Int} (ha : a ∈ (wk T).V) : (0 ≤ fnd (wk T).V a ∧ fnd (wk T).V a < (wk T).V.length) ∧ rd (wk T).V (fnd (wk T).V a) = a := by
  rw [WP.fnd_mem ha]
  have h1 := List.idxOf_lt_length_of_mem ha
  refine ⟨⟨by omega, by omega⟩, ?_⟩
  unfold rd
  rw [Int.toNat_natCast, List.getD_eq_getElem?_getD, WP.idx_get ha]
  rfl
theorem once_l1 (hT60 : T.length ≤ 1000) (hP : P.length ≤ 1000) : ∀ (d i : Nat) (met : List Bool), i + d = (OI T).length → met.length = T.length → (∀ v : Nat, v < T.length → met.getD v false = decide ((v : Int) ∈ (OI T).take i)) → Ev (fun k => lapidarylaw11_WalkOnce.l1 k (wk T).V (OI T) met (i : Int) P T (cP P T) (cT P T)) true := by
  intro d
  have hl := OI_len h
  have hVl := V_len h
  have hcT := cT_ln h
  induction d with
  | zero =>
    intro i met hi hml hm
    refine Ev.step (fun k => by rw [lapidarylaw11_WalkOnce.l1, if_neg (by omega)]) ?_
    exact known_true
  | succ d ih =>
    intro i met hi hml hm
    obtain ⟨t, ht, htl, a, b, c, hR, hrot, ha, hb, hc, hx⟩ := OI_get h i (by omega)
    have hio : i < (OI T).length := by omega
    have hOi : (OI T)[i] = (t : Int) := by rw [List.getElem?_eq_getElem hio] at ht; exact Option.some.inj ht
    have hrd : rd (OI T) (i : Int) = (t : Int) := by unfold rd; rw [Int.toNat_natCast, List.getD_eq_getElem?_getD, ht]; rfl
    have hns := not_seen (n := T.length) hm (OI_nd h) hio (by rw [hOi]; omega) (by rw [hOi]; omega)
    rw [hOi] at hns
    have hset := seen_set hml hm hio (by rw [hOi]; omega) (by rw [hOi]; omega)
    rw [hOi] at hset
    obtain ⟨ha1, ha2⟩ := V_at ha
    obtain ⟨hb1, hb2⟩ := V_at hb
    obtain ⟨hc1, hc2⟩ := V_at hc
    have htT : (⟨(rd_T47 T (t : Int)).f0, (rd_T47 T (t : Int)).f1, (rd_T47 T (t : Int)).f2⟩ : S47) = T.getD t z47 := by unfold rd_T47; rw [Int.toNat_natCast]
    have hxr : rd_T47 (cT P T) (i : Int) = ⟨fnd (wk T).V a, fnd (wk T).V b, fnd (wk T).V c⟩ := by unfold rd_T47; rw [Int.toNat_natCast, hx]
    have he1 : (a, b) ∈ Fan.edges3 (trT (T.getD t z47)) := (LK.rot_edges hrot _).1 (by simp [Fan.edges3])
    have he2 : (b, c) ∈ Fan.edges3 (trT (T.getD t z47)) := (LK.rot_edges hrot _).1 (by simp [Fan.edges3])
    refine Ev.step (fun k => by rw [lapidarylaw11_WalkOnce.l1, if_pos (by omega), if_pos (by omega), hrd, if_neg (by omega), if_neg (by omega), if_pos (by omega), if_pos (by omega), hns]) ?_
    refine Ev.step (fun k => by rw [lapidarylaw11_WalkOnce.j3, if_neg (by decide), if_pos (by omega), if_pos (by omega), hrd, if_pos (by omega), if_pos (by omega), if_pos (by omega), if_pos (by omega), hxr, htT, if_pos ha1.1, if_pos ha1.2, if_pos hb1.1, if_pos hb1.2, if_pos hc1.1, if_pos hc1.2]) ?_
    simp only
    rw [ha2, hb2, hc2]
    have q1 := RF.has_ev [T.getD t z47] a b (by simp)
    have q2 := RF.has_ev [T.getD t z47] b c (by simp)
    rw [lk_one _ _ _ he1] at q1
    rw [lk_one _ _ _ he2] at q2
    refine Ev.bind q1 (Ev.if_yes rfl (Ev.bind q2 (Ev.if_yes rfl ?_)))
    rw [w1 (by omega), Int.toNat_natCast]
    rw [Int.toNat_natCast] at hset
    exact ih (i + 1) _ (by omega) hset.1 hset.2
theorem once_l0 (hT60 : T.length ≤ 1000) (hP : P.length ≤ 1000) : ∀ (d i : Nat) (seen : List Bool), i + d = (wk T).V.length → seen.length = P.length → (∀ v : Nat, v < P.length → seen.getD v false = decide ((v : Int) ∈ (wk T).V.take i)) → Ev (fun k => lapidarylaw11_WalkOnce.l0 k (wk T).V (OI T) seen (i : Int) P T (cP P T) (cT P T)) true := by
  intro d
  have hVl := V_len h
  have hcP := cP_ln h
  induction d with
  | zero =>
    intro i seen hi hsl hs
    obtain ⟨n1, n2⟩ := none_seen T.length (OI T)
    refine Ev.step (fun k => by rw [lapidarylaw11_WalkOnce.l0, if_neg (by omega), if_pos (by omega), if_pos (by omega), Int.toNat_natCast]) ?_
    exact once_l1 h hT60 hP _ 0 _ (Nat.zero_add _) n1 n2
  | succ d ih =>
    intro i seen hi hsl hs
    have hiV : i < (wk T).V.length := by omega
    obtain ⟨v, hv, hvb, hcv⟩ := cP_get h (i := i) (by omega)
    have hVi : (wk T).V[i] = v := by rw [List.getElem?_eq_getElem hiV] at hv; exact Option.some.inj hv
    have hrd : rd (wk T).V (i : Int) = v := by unfold rd; rw [Int.toNat_natCast, List.getD_eq_getElem?_getD, hv]; rfl
    have hns := not_seen (n := P.length) hs (WP.fin_inv (tab_is h)).vnd hiV (by show 0 ≤ (wk T).V[i]; rw [hVi]; omega) (by show (wk T).V[i] < _; rw [hVi]; omega)
    have hns : rdOf false seen v = false := by rw [← hVi]; exact hns
    have hset := seen_set hsl hs hiV (by rw [hVi]; omega) (by rw [hVi]; omega)
    rw [hVi] at hset
    have hne : ¬ (!(((rd_T46 (cP P T) (i : Int)).f0) == ((rd_T46 P v).f0)) || (!(((rd_T46 (cP P T) (i : Int)).f1) == ((rd_T46 P v).f1)) || (!(((rd_T46 (cP P T) (i : Int)).f2) == ((rd_T46 P v).f2))))) = true := by
      rw [ne55, Classical.not_not]
      unfold rd_T46
      rw [Int.toNat_natCast]
      exact hcv
    refine Ev.step (fun k => by rw [lapidarylaw11_WalkOnce.l0, if_pos (by omega), if_pos (by omega), hrd, if_neg (by omega), if_neg (by omega), if_pos (by omega), if_pos (by omega), hns, if_neg (by decide), if_pos (by omega), if_pos (by omega), if_neg hne, w1 (by omega)]) ?_
    exact ih (i + 1) _ (by omega) hset.1 hset.2
end
theorem walkOnce (P : List S46) (T : List S47) : ∃ k, lapidarylaw11_WalkOnce.f k P T = some true := by
  refine Ev.rounds ?_
  unfold lapidarylaw11_WalkOnce.f
  refine long_ev fun g1 g2 => ?_
  unfold walk_Canon.f
  refine Ev.some_bind ?_
  show Ev (fun k => if chk P T = 0 then _ else if ((cT P T).length : Int) = 0 then _ else _) true
  by_cases h : chk P T = 0
  · refine Ev.if_yes h ?_
    have hc := chk_canon h
    unfold walk_Steps.f walk_Order.f
    refine Ev.some_bind (Ev.some_bind (Ev.some_bind ?_))
    refine Ev.if_yes hc ?_
    have hS : (if chk (cP P T) (cT P T) = 0 then (wk (cT P T)).S.map to62 else []) = (if chk P T = 0 then (wk T).S.map to62 else []) := by rw [if_pos hc, if_pos h, steps_canon h hc]
    have e1 : Ev (fun k => lapidaryref11_SameSteps.f k (if chk P T = 0 then (wk T).S.map to62 else []) (if chk (cP P T) (cT P T) = 0 then (wk (cT P T)).S.map to62 else [])) true := yes_of (eqS _ _ (by rw [if_pos h, List.length_map]; have := (wk_small h).S; omega)) hS.symm
    refine Ev.bind e1 (Ev.if_yes rfl (Ev.bind (is_canon h) (Ev.if_yes rfl ?_)))
    simp only [if_pos h]
    rw [← cT_eq h, ← cP_eq h]
    refine Ev.if_yes (by rw [V_len h]) (Ev.if_yes (by rw [List.length_map, O_len h]) (Ev.if_yes (by rw [cT_ln h]) ?_))
    have hb : (((cP P T).length : Int) != (P.length : Int)) = false := by rw [cP_ln h]; simp
    refine Ev.step (g := fun k => lapidarylaw11_WalkOnce.j0 k (wk T).V (OI T) (((cP P T).length : Int) != (P.length : Int)) P T (cP P T) (cT P T)) (fun k => by rw [lapidarylaw11_WalkOnce.j0, hb, if_neg (by decide), if_pos (by omega), if_pos (by omega), Int.toNat_natCast]) ?_
    obtain ⟨n1, n2⟩ := none_seen P.length (wk T).V
    exact once_l0 h (by omega) (by omega) _ 0 _ (Nat.zero_add _) n1 n2
  · refine Ev.if_no h (Ev.if_yes (by unfold cT; rw [if_neg h]; rfl) ?_)
    refine Ev.bind (no_of (is_ev P T) fun hh => h hh.1) (Ev.if_no (by decide) known_true)
end Go.Proofs.YtomknjmgcbbjlaaDoor.WL
