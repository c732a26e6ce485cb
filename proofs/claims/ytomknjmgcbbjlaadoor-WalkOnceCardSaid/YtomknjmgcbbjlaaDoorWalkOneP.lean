import Derived.Test.YtomknjmgcbbjlaaDoorWalkLawsA
import Derived.Test.YtomknjmgcbbjlaaDoorPieceP
namespace Go.Proofs.YtomknjmgcbbjlaaDoor.WL
open Go Go.RowKit Go.Proofs.YtomknjmgcbbjlaaDoor.PWlk Go.Proofs.YtomknjmgcbbjlaaDoorW.PrintWords Go.Proofs.YtomknjmgcbbjlaaDoorW.PrintLast Go.Proofs.YtomknjmgcbbjlaaDoorW.PrintMore
open Go.Proofs.YtomknjmgcbbjlaaDoor.MR (EvB EvP rd45 rd57 w1 Plain PtOk)
open Go.Proofs.YtomknjmgcbbjlaaDoor.MM (trs trT)
open Go.Proofs.YtomknjmgcbbjlaaDoor.WP (fnd add Tab)
open Go.Proofs.YtomknjmgcbbjlaaDoor.WW (to47 to62 to107 surf_of tab_of Surf)
set_option linter.unusedVariables false
set_option linter.unusedSimpArgs false
set_option maxRecDepth 100000
theorem told_of {P : List S46} {T : List S47} (h : chk P T = 0) : MR.Told P T 0 := h ▸ chk_told P T
theorem tab_is {P : List S46} {T : List S47} (h : chk P T = 0) : Tab (MC.look T) (trs T) T.length := by
  obtain ⟨hS, hs⟩ := surf_of (told_of h)
  exact tab_of hS.hp hs
theorem round_is {P : List S46} {T : List S47} (h : chk P T = 0) : ∀ v : Nat, v < P.length → 0 < (Fan.atV (trs T) T.length v).length ∧ Fan.Whole (Fan.atF (tab_is h).good v) := by
  have ht := told_of h
  generalize h0 : (0 : Int) = r at ht
  cases ht with
  | long h => cases h0
  | arg _ h => cases h0
  | edge _ _ h => cases h0
  | vertex _ _ _ h => cases h0
  | ok _ _ _ hr => exact hr
theorem surf_is {P : List S46} {T : List S47} (h : chk P T = 0) : Surf P T := (surf_of (told_of h)).1
theorem V_all {P : List S46} {T : List S47} (h : chk P T = 0) {v : Int} : v ∈ (wk T).V ↔ 0 ≤ v ∧ v < P.length := by
  constructor
  · exact V_in h
  · rintro ⟨h0, h1⟩
    have h2 := (round_is h v.toNat (by omega)).1
    rw [show ((v.toNat : Nat) : Int) = v by omega] at h2
    obtain ⟨i, hi⟩ := List.exists_mem_of_length_pos h2
    obtain ⟨h3, h4⟩ := Fan.mem_atV.1 hi
    exact (WP.fin_V (tab_is h)).2 ⟨i, h3, h4⟩
theorem V_len {P : List S46} {T : List S47} (h : chk P T = 0) : (wk T).V.length = P.length := by
  have hp : (wk T).V.Perm ((List.range P.length).map fun i : Nat => (i : Int)) := by
    refine (List.perm_ext_iff_of_nodup (WP.fin_inv (tab_is h)).vnd ?_).2 fun v => ?_
    · rw [List.Nodup, List.pairwise_map]
      exact List.Pairwise.imp (fun h e => h (by omega)) List.nodup_range
    · show v ∈ (wk T).V ↔ _
      rw [V_all h, List.mem_map]
      constructor
      · rintro ⟨h1, h2⟩; exact ⟨v.toNat, List.mem_range.2 (by omega), by omega⟩
      · rintro ⟨i, h1, rfl⟩; have := List.mem_range.1 h1; omega
  have := hp.length_eq
  simpa using this
theorem cP_eq {P : List S46} {T : List S47} (h : chk P T = 0) : cP P T = (wk T).V.map (fun v => P.getD v.toNat z46) := by unfold cP; rw [if_pos h]
theorem cT_eq {P : List S46} {T : List S47} (h : chk P T = 0) : cT P T = (wk T).T.map to47 := by unfold cT; rw [if_pos h]
theorem cP_ln {P : List S46} {T : List S47} (h : chk P T = 0) : (cP P T).length = P.length := by rw [cP_eq h, List.length_map, V_len h]
theorem cT_ln {P : List S46} {T : List S47} (h : chk P T = 0) : (cT P T).length = T.length := by
  rw [cT_eq h, List.length_map]
  exact WP.fin_Tlen (tab_is h)
theorem cT_tr {P : List S46} {T : List S47} (h : chk P T = 0) (k : Nat) (hk : k < T.length) : trs (cT P T) k = WP.ctr (MC.look T) (trs T) T.length k := by
  have h1 : k < (wk T).T.length := by
    have := WP.fin_Tlen (tab_is h)
    show k < (WP.fin _ _ _).T.length
    omega
  show trT ((cT P T).getD k z47) = (wk T).T.getD k WP.zT
  rw [cT_eq h, List.getD_eq_getElem?_getD, List.getElem?_map, List.getD_eq_getElem?_getD, List.getElem?_eq_getElem h1]
  rfl
theorem canon_lk {P : List S46} {T : List S47} (h : chk P T = 0) : LK.Like (fun v => 0 ≤ v ∧ v < P.length) (fnd (wk T).V) false (trs T) T.length (trs (cT P T)) (cT P T).length (fun i => (wk T).O.idxOf i) := by
  have hc := WP.canon_like (tab_is h)
  rw [cT_ln h]
  exact ⟨hc.lt, hc.inj, hc.onto, fun i hi => by
    have h3 : trs (cT P T) ((wk T).O.idxOf i) = WP.ctr (MC.look T) (trs T) T.length ((wk T).O.idxOf i) := cT_tr h _ (hc.lt i hi)
    rw [h3]
    exact hc.tri i hi, fun a ha b hb e => WP.fnd_inj ((V_all h).2 ha) ((V_all h).2 hb) e, fun i hi v hv => (surf_is h).rng hi hv⟩
theorem told_canon {P : List S46} {T : List S47} (h : chk P T = 0) {Q : List S46} (hQ : Q.length = P.length) (hpt : ∀ i, i < Q.length → PtOk (Q.getD i z46)) : MR.Told Q (cT P T) 0 := by
  refine LK.told_like (told_of h) (canon_lk h) hQ (cT_ln h) hpt (fun v h0 h1 => ?_) fun u hu => ?_
  · have hm := (V_all h).2 ⟨h0, h1⟩
    rw [WP.fnd_mem hm]
    have := List.idxOf_lt_length_of_mem hm
    rw [V_len h] at this
    omega
  · have hl : u < (wk T).V.length := by rw [V_len h]; exact hu
    have hv := (V_all h).1 (List.getElem_mem hl)
    refine ⟨(wk T).V[u].toNat, by omega, ?_⟩
    have h4 : (wk T).V.idxOf ((wk T).V[u]) = u := WP.idx_of_get (WP.fin_inv (tab_is h)).vnd (List.getElem?_eq_getElem hl)
    rw [show (((wk T).V[u].toNat : Nat) : Int) = (wk T).V[u] by omega, WP.fnd_mem (List.getElem_mem hl), h4]
theorem pt_ok {P : List S46} {T : List S47} (h : chk P T = 0) (i : Nat) (hi : i < P.length) : PtOk (P.getD i z46) := (surf_is h).hp.1 i hi
theorem cP_get {P : List S46} {T : List S47} (h : chk P T = 0) {i : Nat} (hi : i < P.length) : ∃ v, (wk T).V[i]? = some v ∧ (0 ≤ v ∧ v < P.length) ∧ (cP P T).getD i z46 = P.getD v.toNat z46 := by
  have hl : i < (wk T).V.length := by rw [V_len h]; exact hi
  refine ⟨(wk T).V[i], List.getElem?_eq_getElem hl, (V_all h).1 (List.getElem_mem hl), ?_⟩
  rw [cP_eq h, List.getD_eq_getElem?_getD, List.getElem?_map, List.getElem?_eq_getElem hl]
  rfl
theorem told_unique {P : List S46} {T : List S47} (h : MR.Told P T 0) : chk P T = 0 := by
  have h2 := chk_told P T
  generalize hr : chk P T = r at h2
  generalize h0 : (0 : Int) = z at h
  cases h with
  | long h => cases h0
  | arg _ h => cases h0
  | edge _ _ h => cases h0
  | vertex _ _ _ h => cases h0
  | ok hl hp hs hrd =>
    cases h2 with
    | long h => omega
    | arg _ h => exact absurd hp h
    | edge _ _ h => exact absurd hs h
    | vertex _ _ _ h => exact absurd hrd h
    | ok => rfl
theorem chk_canon {P : List S46} {T : List S47} (h : chk P T = 0) : chk (cP P T) (cT P T) = 0 := told_unique (told_canon h (cP_ln h) fun i hi => by
  rw [cP_ln h] at hi
  obtain ⟨v, _, hv, he⟩ := cP_get h hi
  rw [he]
  exact pt_ok h v.toNat (by omega))
theorem rel_canon {P : List S46} {T : List S47} (h : chk P T = 0) {Q : List S46} (hQ : chk Q (cT P T) = 0) : WP.Rel (fnd (wk T).V) (fun i => (wk T).O.idxOf i) (wk T) (wk (cT P T)) := by
  have hT := tab_is h
  have hT' := tab_is hQ
  rw [cT_ln h] at hT'
  have := WP.canon_sim hT hT' (fun k hk => cT_tr h k hk)
  unfold wk
  rw [cT_ln h]
  exact this
theorem steps_canon {P : List S46} {T : List S47} (h : chk P T = 0) {Q : List S46} (hQ : chk Q (cT P T) = 0) : (wk (cT P T)).S = (wk T).S := (rel_canon h hQ).S
theorem tris_canon {P : List S46} {T : List S47} (h : chk P T = 0) {Q : List S46} (hQ : chk Q (cT P T) = 0) : cT Q (cT P T) = cT P T := by
  rw [cT_eq hQ, (rel_canon h hQ).T, cT_eq h]
theorem verts_canon {P : List S46} {T : List S47} (h : chk P T = 0) {Q : List S46} (hQ : chk Q (cT P T) = 0) : (wk (cT P T)).V = (List.range P.length).map fun i : Nat => (i : Int) := by
  have h5 : (wk T).V.map (fnd (wk T).V) = (List.range (wk T).V.length).map (fun i : Nat => (i : Int)) := WP.map_fnd (WP.fin_inv (tab_is h)).vnd
  rw [(rel_canon h hQ).V, h5, V_len h]
theorem points_canon {P : List S46} {T : List S47} (h : chk P T = 0) {Q : List S46} (hQ : chk Q (cT P T) = 0) (hl : Q.length = P.length) : cP Q (cT P T) = Q := by
  rw [cP_eq hQ, verts_canon h hQ, List.map_map]
  refine List.ext_getElem (by simp [hl]) fun i h1 h2 => ?_
  rw [List.getElem_map, List.getElem_range]
  show Q.getD ((i : Int).toNat) z46 = _
  rw [Int.toNat_natCast, List.getD_eq_getElem?_getD, List.getElem?_eq_getElem h2]
  rfl
theorem is_canon {P : List S46} {T : List S47} (h : chk P T = 0) : Ev (fun k => walk_Is.f k (cP P T) (cT P T)) true :=
  yes_of (is_ev _ _) ⟨chk_canon h, points_canon h (chk_canon h) (cP_ln h), tris_canon h (chk_canon h)⟩
end Go.Proofs.YtomknjmgcbbjlaaDoor.WL
