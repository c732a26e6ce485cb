import Derived.Test.YtomknjmgcbbjlaaDoorMeshRef
namespace Go.Proofs.YtomknjmgcbbjlaaDoor.MC
open Go Go.RowKit Go.Maps Go.WideMaps Go.Proofs.YtomknjmgcbbjlaaDoor.Mem Go.Proofs.YtomknjmgcbbjlaaDoor.PWlk Go.Proofs.YtomknjmgcbbjlaaDoorW.PrintWords Go.Proofs.YtomknjmgcbbjlaaDoorW.PrintLast Go.Proofs.YtomknjmgcbbjlaaDoorW.PrintMore Go.Proofs.YtomknjmgcbbjlaaDoor.MM Go.Proofs.YtomknjmgcbbjlaaDoor.MR
set_option linter.unusedVariables false
set_option maxRecDepth 100000
set_option linter.unusedSimpArgs false
theorem getD_of_mem {α : Type} {l : List α} {q z : α} (h : q ∈ l) : ∃ i, i < l.length ∧ l.getD i z = q := by
  obtain ⟨i, hi, rfl⟩ := List.mem_iff_getElem.1 h
  exact ⟨i, hi, by rw [List.getD_eq_getElem?_getD, List.getElem?_eq_getElem hi]; rfl⟩
theorem getD_in {α : Type} (l : List α) (d : α) (k : Nat) (h : k < l.length) : l.getD k d = l[k] ∧ l.getD k d ∈ l := by
  have e : l.getD k d = l[k] := by rw [List.getD_eq_getElem?_getD, List.getElem?_eq_getElem h]; rfl
  exact ⟨e, by rw [e]; exact List.getElem_mem h⟩
theorem plain_bounds {P : List S46} {T : List S47} (h : Plain P T) : ∀ q ∈ T, (0 ≤ q.f0 ∧ q.f0 < P.length) ∧ (0 ≤ q.f1 ∧ q.f1 < P.length) ∧ (0 ≤ q.f2 ∧ q.f2 < P.length) := by
  intro q hq
  obtain ⟨i, hi, rfl⟩ := getD_of_mem (z := z47) hq
  exact (h.2 i hi).1
theorem new_edges {T : List S47} {i : Nat} (hi : i < T.length) (hp : ∀ i, i < T.length → Fan.plain3 (trs T i)) (k : Nat) (hk : k < 3) {e : Int × Int} (he : e = (edgeL (T.getD i z47)).getD k (0, 0)) :
    e ∈ Fan.edges3 (trs T i) ∧ (e ∈ (MM.upto T i (T.getD i z47) k).map (·.1) ↔ ∃ m, m < i ∧ e ∈ Fan.edges3 (trs T m)) := by
  have hpl := hp i hi
  have hm : e ∈ Fan.edges3 (trs T i) := by
    subst he
    show (edgeL (T.getD i z47)).getD k (0, 0) ∈ edgeL (T.getD i z47)
    exact (getD_in (edgeL (T.getD i z47)) (0, 0) k hk).2
  refine ⟨hm, ?_⟩
  unfold MM.upto
  rw [Int.toNat_natCast, List.map_append, List.mem_append, mem_fst]
  refine ⟨fun h => h.resolve_right fun h2 => ?_, .inl⟩
  rw [List.map_map] at h2
  have h3 : e ∈ (edgeL (T.getD i z47)).take k := by
    obtain ⟨e', h4, h5⟩ := List.mem_map.1 h2
    have : e' = e := h5
    rw [← this]; exact h4
  have hnd := edges3_nodup hpl
  have hnd2 : (edgeL (T.getD i z47)).Nodup := hnd
  have hl : (edgeL (T.getD i z47)).length = 3 := rfl
  obtain ⟨j, hj, h6⟩ := List.mem_iff_getElem.1 h3
  rw [List.length_take] at hj
  rw [List.getElem_take] at h6
  have he2 : e = (edgeL (T.getD i z47))[k] := he.trans (getD_in (edgeL (T.getD i z47)) (0, 0) k hk).1
  rw [he2] at h6
  exact (List.pairwise_iff_getElem.1 hnd2) j k (by omega) (by omega) (by omega) h6
set_option maxHeartbeats 4000000 in
set_option maxRecDepth 100000 in
theorem check28 (P : List S46) (T : List S47) (r : Int) (ht : MR.Told P T r) (A0 : Option Addr) (c0 : Nat) (A1 : Option Addr) (c1 : Nat) (w : World) (hr0 : Kd.C k46 w A0 P.length P) (hc0 : P.length ≤ c0) (hr1 : Kd.C k47 w A1 T.length T) (hc1 : T.length ≤ c1) (hG : Gl w) :
    Calls Tryd.prog 54 #[.agg #[.slice A0 P.length c0, .slice A1 T.length c1]] w fun e w' => e = .returned (.int .i64 r) ∧ Below w.heap.size w w' := by
  have HT := Lib.hid ht
  have HR0 := Lib.hid hr0
  have HR1 := Lib.hid hr1
  have HG := Lib.hid hG
  clear ht hr0 hr1 hG
  have hb1 := (Below.refl w.heap.size w).alloc (Nat.le_refl _) (.cells #[.slice A0 P.length c0, .slice A1 T.length c1] 25 (0, 0))
  have hm1 := Blk.here w 25 #[.slice A0 P.length c0, .slice A1 T.length c1]
  go_enter Tryd.func54, Tryd.ntmps54
  by_cases h1 : 4000 < P.length
  · have d1 : decide ((4000 : Int) < (P.length : Int)) = true := decide_eq_true (by omega)
    have hr : r = 3 := by
      cases HT.out
      · rfl
      all_goals omega
    subst hr
    go_wp2
    go_ret
    exact ⟨rfl, hb1⟩
  have d1 : decide ((4000 : Int) < (P.length : Int)) = false := decide_eq_false (by omega)
  by_cases h2 : 8000 < T.length
  · have d2 : decide ((8000 : Int) < (T.length : Int)) = true := decide_eq_true (by omega)
    have hr : r = 3 := by
      cases HT.out
      · rfl
      all_goals omega
    subst hr
    go_wp2
    go_ret
    exact ⟨rfl, hb1⟩
  have d2 : decide ((8000 : Int) < (T.length : Int)) = false := decide_eq_false (by omega)
  obtain ⟨pb, hpe, hpb⟩ := mplain P T (by omega) (by omega)
  obtain ⟨kp, hkp⟩ := Ev.rounds hpe
  go_wp2_with fail
  generalize w.alloc (.cells #[.slice A0 P.length c0, .slice A1 T.length c1] 25 (0, 0)) = w1 at *
  refine (mesh_plain.calls kp A0 c0 P A1 c1 T pb w1 (Kd.C_below HR0.out hb1) hc0 (Kd.C_below HR1.out hb1) hc1 hkp).mono ?_
  rintro e w2 ⟨rfl, hd2⟩
  have hbp := hd2
  have hb2 := hb1.trans (hbp.mono hb1.size)
  have hm2 := hm1.below hbp
  clear hbp hd2 hb1 hm1
  have x0 : w2.cell? ⟨w.heap.size, 0, none⟩ = some (.slice A0 P.length c0) := hm2.cell 0
  have x1 : w2.cell? ⟨w.heap.size, 1, none⟩ = some (.slice A1 T.length c1) := hm2.cell 1
  cases pb with
  | false =>
    have hnp : ¬ Plain P T := fun x => by have := hpb.2 x; cases this
    have hr : r = 2 := by
      cases HT.out
      · omega
      · rfl
      all_goals exact absurd (by assumption) hnp
    subst hr
    go_wp2
    go_ret
    exact ⟨rfl, hb2⟩
  | true =>
    have hp := hpb.1 rfl
    have hpl : ∀ i, i < T.length → Fan.plain3 (trs T i) := fun i hi => (hp.2 i hi).2
    have hbd := plain_bounds hp
    have hwf : ∀ q ∈ T, (Lit.int .i64 q.f0).wf = true ∧ (Lit.int .i64 q.f1).wf = true ∧ (Lit.int .i64 q.f2).wf = true := fun q hq => by
      obtain ⟨b0, b1, b2⟩ := hbd q hq
      exact ⟨wf_small (by omega), wf_small (by omega), wf_small (by omega)⟩
    have htab := table39 w2 A0 A1 P T c0 c1 (Kd.C_below HR1.out hb2) hc1 (HG.out.below hb2) hwf (by omega) (Firsts T) (¬ Single T) (fun j hj => absurd hj (Nat.not_lt_zero _))
      (fun i k hi hk hh hs => by
        obtain ⟨e1, e2⟩ := new_edges hi hpl k hk rfl
        have hw : wfE ((edgeL (T.getD i z47)).getD k (0, 0)) := edge_wf hp (by omega) hi e1
        have hwu : ∀ p ∈ MM.upto T i (T.getD i z47) k, wfE p.1 := by
          intro p hp2
          unfold MM.upto at hp2
          rw [Int.toNat_natCast, List.mem_append] at hp2
          rcases hp2 with h | h
          · exact edgesU_wf hp (by omega) (by omega) p h
          · obtain ⟨e', h4, rfl⟩ := List.mem_map.1 h
            exact edge_wf hp (by omega) hi (List.mem_of_mem_take h4)
        obtain ⟨m, h5, h6⟩ := e2.1 ((has_datE hwu hw).1 hh)
        have := hs m (by omega) i hi _ h6 e1
        omega)
      (fun i hi hFi hno => by
        intro j hj e he m hm
        by_cases e1 : j = i
        · subst e1
          obtain ⟨k, hk, hke⟩ : ∃ k, k < 3 ∧ e = (edgeL (T.getD j z47)).getD k (0, 0) := by
            obtain ⟨k, hk, hke⟩ := getD_of_mem (z := ((0 : Int), (0 : Int))) (show e ∈ edgeL (T.getD j z47) from he)
            exact ⟨k, hk, hke.symm⟩
          obtain ⟨e3, e4⟩ := new_edges hi hpl k hk hke
          intro hc
          have hwu : ∀ p ∈ MM.upto T j (T.getD j z47) k, wfE p.1 := by
            intro p hp2
            unfold MM.upto at hp2
            rw [Int.toNat_natCast, List.mem_append] at hp2
            rcases hp2 with h | h
            · exact edgesU_wf hp (by omega) (by omega) p h
            · obtain ⟨e', h4, rfl⟩ := List.mem_map.1 h
              exact edge_wf hp (by omega) hi (List.mem_of_mem_take h4)
          have h7 := (has_datE hwu (edge_wf hp (by omega) hi e3)).2 (e4.2 ⟨m, hm, hc⟩)
          have h8 := hno k hk
          rw [← hke, h7] at h8
          cases h8
        · exact hFi j (by omega) e he m hm)
    replace htab := Lib.hid htab
    clear hbd hwf hpl hpb hpe hkp
    have HP := Lib.hid hp
    clear hp
    go_wp2_with fail
    refine htab.out.mono ?_
    rintro e w3 ⟨mv, ok, rfl, hb3, hyes, hno⟩
    have hbb := hb2.trans (hb3.mono hb2.size)
    have hm3 := hm2.below hb3
    clear htab
    have x0b : w3.cell? ⟨w.heap.size, 0, none⟩ = some (.slice A0 P.length c0) := hm3.cell 0
    have x1b : w3.cell? ⟨w.heap.size, 1, none⟩ = some (.slice A1 T.length c1) := hm3.cell 1
    have hp := HP.out
    have hpl : ∀ i, i < T.length → Fan.plain3 (trs T i) := fun i hi => (hp.2 i hi).2
    cases ok with
    | false =>
      have hns := hno rfl
      have hr : r = 80 := by
        cases HT.out
        · omega
        · exact absurd hp (by assumption)
        · rfl
        all_goals exact absurd (by assumption) hns
      subst hr
      clear hyes hno hp hpl hns
      go_wp2
      go_ret
      exact ⟨rfl, hbb⟩
    | true =>
      obtain ⟨hmv, hown, hF⟩ := hyes rfl
      subst hmv
      have hs := firsts_single hF
      have hbd := plain_bounds hp
      have gd := good_of hp hs
      have hL := looks hp (by omega) hF
      have hex : ∀ v : Nat, ∃ n : Nat, v < P.length → 0 < cAt T v → ∃ first, (MC.upto T v T.length).getLast? = some first ∧ (∃ k, k ≤ 100000 ∧ Fan.fanN (fun t => look T ((v : Int), t)) (fun t => look T (t, (v : Int))) (fun i => Fan.frT (trs T i) v) (fun i => Fan.toT (trs T i) v) first k = some n) ∧ (n = cAt T v ↔ Fan.Whole (Fan.atF gd v)) := by
        intro v
        by_cases hv : v < P.length ∧ 0 < cAt T v
        · cases hl : (MC.upto T v T.length).getLast? with
          | none =>
            rw [List.getLast?_eq_none_iff] at hl
            have h0 : cAt T v = 0 := by
              show (MC.upto T v T.length).length = 0
              rw [hl]; rfl
            omega
          | some first =>
            have hmem : first ∈ MC.upto T v T.length := List.mem_of_getLast? hl
            have hcl := cAt_le (T := T) (v : Int)
            obtain ⟨n, hn1, hn2⟩ := Fan.fan_whole (Fan.atF gd v) (Fan.tells_of gd v (look T) (fun e i h => look_some h) (fun e h => look_none h)) (first := first) hmem (k := T.length + 1) (by show cAt T v < T.length + 1; omega)
            exact ⟨n, fun _ _ => ⟨first, rfl, ⟨T.length + 1, by omega, hn1⟩, hn2⟩⟩
        · exact ⟨0, fun h1 h2 => absurd ⟨h1, h2⟩ hv⟩
      obtain ⟨N, hN⟩ : ∃ N : Nat → Nat, ∀ v : Nat, v < P.length → 0 < cAt T v → ∃ first, (MC.upto T v T.length).getLast? = some first ∧ (∃ k, k ≤ 100000 ∧ Fan.fanN (fun t => look T ((v : Int), t)) (fun t => look T (t, (v : Int))) (fun i => Fan.frT (trs T i) v) (fun i => Fan.toT (trs T i) v) first k = some (N v)) ∧ (N v = cAt T v ↔ Fan.Whole (Fan.atF gd v)) :=
        ⟨fun v => (hex v).choose, fun v => (hex v).choose_spec⟩
      have hcnt : ∀ v : Nat, v < P.length → (cntL P.length T T.length).getD v 0 = (cAt T v : Int) := fun v hv => (counts hp (by omega) v hv T.length (Nat.le_refl _)).1
      obtain ⟨rb, hrb⟩ : ∃ rb : Bool, rb = true ↔ ∃ (hp : Plain P T) (hs : Single T), Round P.length T (good_of hp hs) := by
        by_cases h : Round P.length T (good_of hp hs)
        · exact ⟨true, ⟨fun _ => ⟨hp, hs, h⟩, fun _ => rfl⟩⟩
        · exact ⟨false, ⟨fun x => (nomatch x), fun x => absurd x.2.2 h⟩⟩
      have hf := fans40 w3 A0 A1 P T c0 c1 (Kd.C_below HR0.out hbb) hc0 (Kd.C_below HR1.out hbb) hc1 (by omega) (by omega) hbd _ _ _ hown (look T) hL rb N
        (fun v hv hne => by
          have h0 : 0 < cAt T v := by
            have := hcnt v hv
            omega
          obtain ⟨first, k1, k2, _⟩ := hN v hv h0
          have hmem := Fan.mem_atV.1 (show first ∈ Fan.atV (trs T) T.length v from List.mem_of_getLast? k1)
          have hlast : (fstL P.length T T.length).getD v 0 = (first : Int) := by
            rcases (counts hp (by omega) v hv T.length (Nat.le_refl _)).2 with h | ⟨m, h3, h4⟩
            · rw [h] at k1; cases k1
            · rw [h3] at k1
              have : m = first := Option.some.inj k1
              rw [h4, this]
          refine ⟨first, hlast, hmem.1, hmem.2, k2, ?_, ?_⟩
          · intro i t hl
            obtain ⟨h3, h4⟩ := look_some hl
            obtain ⟨h5, h6⟩ := (Fan.edge_from (hpl i h3)).1 h4
            rw [← h6]
            exact (Fan.after_to (hpl i h3) h5).1
          · intro i t hl
            obtain ⟨h3, h4⟩ := look_some hl
            obtain ⟨h5, h6⟩ := (Fan.edge_to (hpl i h3)).1 h4
            rw [← h6]
            exact (Fan.after_to (hpl i h3) h5).2)
        (by
          rw [hrb]
          constructor
          · intro hr v hv
            obtain ⟨h3, h4⟩ := hr.2.2 v hv
            obtain ⟨first, k1, k2, k3⟩ := hN v hv h3
            have := hcnt v hv
            have h5 := k3.2 h4
            omega
          · intro hr
            refine ⟨hp, hs, fun v hv => ?_⟩
            obtain ⟨h3, h4⟩ := hr v hv
            have h5 := hcnt v hv
            have h6 : 0 < cAt T v := by omega
            obtain ⟨first, k1, k2, k3⟩ := hN v hv h6
            exact ⟨h6, k3.1 (by omega)⟩)
      clear hex hN hcnt hL hno hyes
      replace hf := Lib.hid hf
      replace hrb := Lib.hid hrb
      replace hs := Lib.hid hs
      replace gd := Lib.hid gd
      clear hpl hbd hp hF hown x0 x1
      go_wp2_with fail
      refine hf.out.mono ?_
      rintro e w4 ⟨rfl, hb4⟩
      have hb44 := hbb.trans (hb4.mono hbb.size)
      clear hf
      cases rb with
      | true =>
        have hr : r = 0 := by
          cases HT.out
          · omega
          · exact absurd HP.out (by assumption)
          · exact absurd hs.out (by assumption)
          · exact absurd (hrb.out.1 rfl).2.2 (by assumption)
          · rfl
        subst hr
        go_wp2
        go_ret
        exact ⟨rfl, hb44⟩
      | false =>
        have hr : r = 81 := by
          cases HT.out
          · omega
          · exact absurd HP.out (by assumption)
          · exact absurd hs.out (by assumption)
          · rfl
          · have := hrb.out.2 ⟨HP.out, hs.out, by assumption⟩; cases this
        subst hr
        go_wp2
        go_ret
        exact ⟨rfl, hb44⟩
end Go.Proofs.YtomknjmgcbbjlaaDoor.MC
namespace Go.Proofs.YtomknjmgcbbjlaaDoor.PWlk
open Go Go.RowKit Go.Proofs.YtomknjmgcbbjlaaDoorW.PrintWords
end Go.Proofs.YtomknjmgcbbjlaaDoor.PWlk
