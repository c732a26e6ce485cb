import Derived.Test.YtomknjmgcbbjlaaDoorWalkI
namespace Go.Proofs.YtomknjmgcbbjlaaDoor.WP
open Go.Proofs.YtomknjmgcbbjlaaDoor.Fan Go.Proofs.YtomknjmgcbbjlaaDoor.LK
set_option linter.unusedVariables false
set_option linter.unusedSimpArgs false
set_option maxRecDepth 100000
section
variable {look : Int × Int → Option Nat} {tr : Nat → Tri} {n : Nat} {look' : Int × Int → Option Nat} {tr' : Nat → Tri} {n' : Nat} {In : Int → Prop} {ν : Int → Int} {σ : Nat → Nat}
theorem look_sim (hT : Tab look tr n) (hT' : Tab look' tr' n') (hL : Like In ν false tr n tr' n' σ) {a b : Int} (ha : In a) (hb : In b) : look' (ν a, ν b) = (look (a, b)).map σ := by
  cases hl : look (a, b) with
  | some i =>
    obtain ⟨h1, h2⟩ := hT.some_ _ _ hl
    exact hT'.is (hL.lt i h1) ((hL.edge' h1 ha hb).2 h2)
  | none =>
    cases hl' : look' (ν a, ν b) with
    | none => rfl
    | some j =>
      obtain ⟨h1, h2⟩ := hT'.some_ _ _ hl'
      obtain ⟨i, hi, rfl⟩ := hL.onto j h1
      exact absurd ((hL.edge' hi ha hb).1 h2) (hT.none_ _ hl i hi)
theorem mem_map_inj (hL : Like In ν false tr n tr' n' σ) {V : List Int} (hV : ∀ v, v ∈ V → In v) {v : Int} (hv : In v) : ν v ∈ V.map ν ↔ v ∈ V := by
  rw [List.mem_map]
  constructor
  · rintro ⟨u, h1, h2⟩; rw [← hL.vinj u (hV u h1) v hv h2]; exact h1
  · exact fun h => ⟨v, h, rfl⟩
theorem idx_map (hL : Like In ν false tr n tr' n' σ) {v : Int} (hv : In v) : ∀ {V : List Int}, (∀ v, v ∈ V → In v) → (V.map ν).idxOf (ν v) = V.idxOf v
  | [], _ => rfl
  | u :: V, hV => by
    have ih := idx_map hL hv (V := V) fun x hx => hV x (List.mem_cons_of_mem _ hx)
    rw [List.map_cons, List.idxOf_cons, List.idxOf_cons, ih]
    by_cases e : u = v
    · rw [e]; simp
    · have : ¬ ν u = ν v := fun h => e (hL.vinj u (hV u (List.mem_cons_self ..)) v hv h)
      rw [beq_false_of_ne e, beq_false_of_ne this]
theorem fnd_map (hL : Like In ν false tr n tr' n' σ) {V : List Int} (hV : ∀ v, v ∈ V → In v) {v : Int} (hv : In v) : fnd (V.map ν) (ν v) = fnd V v := by
  unfold fnd
  rw [idx_map hL hv hV]
  by_cases h : v ∈ V
  · rw [if_pos h, if_pos ((mem_map_inj hL hV hv).2 h)]
  · rw [if_neg h, if_neg fun x => h ((mem_map_inj hL hV hv).1 x)]
theorem add_map (hL : Like In ν false tr n tr' n' σ) {V : List Int} (hV : ∀ v, v ∈ V → In v) {v : Int} (hv : In v) : add (V.map ν) (ν v) = (add V v).map ν := by
  unfold add
  by_cases h : v ∈ V
  · rw [if_pos h, if_pos ((mem_map_inj hL hV hv).2 h)]
  · rw [if_neg h, if_neg fun x => h ((mem_map_inj hL hV hv).1 x), List.map_append]; rfl
theorem in_add {V : List Int} (hV : ∀ v, v ∈ V → In v) {v : Int} (hv : In v) : ∀ x, x ∈ add V v → In x := fun x hx => (mem_add.1 hx).elim (hV x) fun e => e ▸ hv
def mapE (ν : Int → Int) (e : Int × Int) : Int × Int := (ν e.1, ν e.2)
structure Rel (ν : Int → Int) (σ : Nat → Nat) (w w' : Wk) : Prop where
  V : w'.V = w.V.map ν
  O : w'.O = w.O.map σ
  R : w'.R = w.R.map (map3 ν)
  T : w'.T = w.T
  G : w'.G = w.G.map (mapE ν)
  S : w'.S = w.S
  B : w'.B = w.B.map (mapE ν)
theorem rel_init : Rel ν σ init init := ⟨rfl, rfl, rfl, rfl, rfl, rfl, rfl⟩
theorem inv_in (hL : Like In ν false tr n tr' n' σ) {w : Wk} (h : Inv look tr n w) : ∀ v, v ∈ w.V → In v := by
  intro v hv
  obtain ⟨i, hi, h2⟩ := (h.vO v).1 hv
  exact hL.inn i (h.olt i hi) v h2
theorem map3_fnd (hL : Like In ν false tr n tr' n' σ) {V : List Int} (hV : ∀ v, v ∈ V → In v) {t : Tri} (ht : ∀ v, has3 t v = true → In v) : map3 (fnd (V.map ν)) (map3 ν t) = map3 (fnd V) t := by
  obtain ⟨a, b, c⟩ := t
  unfold map3
  dsimp only
  rw [fnd_map hL hV (ht a (by simp [has3])), fnd_map hL hV (ht b (by simp [has3])), fnd_map hL hV (ht c (by simp [has3]))]
theorem third_map (hL : Like In ν false tr n tr' n' σ) {i : Nat} (hi : i < n) {p q : Int} (he : (q, p) ∈ edges3 (tr i)) : third (tr' (σ i)) (ν p) (ν q) = ν (third (tr i) p q) := by
  have h1 := rot_third_of he
  have h2 := hL.tri i hi
  simp only [Bool.false_eq_true, if_false] at h2
  obtain ⟨v, hv⟩ : ∃ v, v = third (tr i) p q := ⟨_, rfl⟩
  rw [← hv] at h1 ⊢
  have h3 : third (tr' (σ i)) (ν p) (ν q) = third (map3 ν (tr i)) (ν p) (ν q) := rot_third h2 _ _
  have h4 : third (map3 ν (q, p, v)) (ν p) (ν q) = third (map3 ν (tr i)) (ν p) (ν q) := by
    refine rot_third ?_ _ _
    generalize tr i = t at h1
    obtain ⟨a, b, c⟩ := t
    rcases h1 with h1 | h1 | h1
    · rw [h1]; exact Rot.refl _
    · rw [h1]; exact .inr (.inl rfl)
    · rw [h1]; exact .inr (.inr rfl)
  rw [h3, ← h4]
  unfold third map3
  dsimp only
  omega
theorem gate_sim (hT : Tab look tr n) (hT' : Tab look' tr' n') (hL : Like In ν false tr n tr' n' σ) {w w' : Wk} (h : Inv look tr n w) (hr : Rel ν σ w w') {g : Int × Int} {r : List (Int × Int)} (hG : w.G = g :: r) :
    Rel ν σ (gate look tr { w with G := r } g.1 g.2) (gate look' tr' { w' with G := r.map (mapE ν) } (ν g.1) (ν g.2)) := by
  obtain ⟨p, q⟩ := g
  have hin := inv_in hL h
  have hpq : In p ∧ In q := by
    obtain ⟨j, hj, hj2⟩ := h.gts (p, q) (by rw [hG]; simp)
    have := edge_has hj2
    exact ⟨hL.inn j (h.olt j hj) p this.1, hL.inn j (h.olt j hj) q this.2⟩
  have hls := look_sim hT hT' hL hpq.2 hpq.1
  unfold gate
  dsimp only
  rw [hls]
  cases hl : look (q, p) with
  | none =>
    dsimp only [Option.map_none]
    exact ⟨hr.V, hr.O, hr.R, hr.T, rfl, by rw [hr.S], by rw [hr.B, List.map_append]; rfl⟩
  | some i =>
    obtain ⟨hi, he⟩ := hT.some_ _ _ hl
    dsimp only [Option.map_some]
    have hO : σ i ∈ w'.O ↔ i ∈ w.O := by
      rw [hr.O, List.mem_map]
      constructor
      · rintro ⟨j, h1, h2⟩; rw [← hL.inj j (h.olt j h1) i hi h2]; exact h1
      · exact fun h1 => ⟨i, h1, rfl⟩
    by_cases hc : i ∈ w.O
    · rw [if_pos hc, if_pos (hO.2 hc)]
      exact ⟨hr.V, hr.O, hr.R, hr.T, rfl, hr.S, hr.B⟩
    · rw [if_neg hc, if_neg fun x => hc (hO.1 x), third_map hL hi he]
      have h1 := rot_third_of he
      generalize third (tr i) p q = v at *
      have hv : In v := hL.inn i hi v (by rw [← rot_has h1]; simp [has3])
      have hVe : add w'.V (ν v) = (add w.V v).map ν := by rw [hr.V]; exact add_map hL hin hv
      refine ⟨hVe, ?_, ?_, ?_, rfl, ?_, hr.B⟩
      · rw [hr.O, List.map_append]; rfl
      · rw [hr.R, List.map_append]; rfl
      · dsimp only
        rw [hVe, hr.T, show (ν q, ν p, ν v) = map3 ν (q, p, v) from rfl, map3_fnd hL (in_add hin hv)]
        intro x hx
        simp only [has3, Bool.or_eq_true, beq_iff_eq] at hx
        rcases hx with (rfl | rfl) | rfl
        · exact hpq.2
        · exact hpq.1
        · exact hv
      · dsimp only
        rw [hr.S, hr.V, fnd_map hL hin hv]
        by_cases hm : v ∈ w.V
        · rw [if_pos hm, if_pos ((mem_map_inj hL hin hv).2 hm)]
        · rw [if_neg hm, if_neg fun x => hm ((mem_map_inj hL hin hv).1 x)]
theorem seed_sim (hL : Like In ν false tr n tr' n' σ) {w w' : Wk} (h : Inv look tr n w) (hr : Rel ν σ w w') {i : Nat} (hi : i < n) (he : tr' (σ i) = map3 ν (tr i)) : Rel ν σ (seed tr w i) (seed tr' w' (σ i)) := by
  have hin := inv_in hL h
  have hti : ∀ v, has3 (tr i) v = true → In v := hL.inn i hi
  unfold seed
  rw [he]
  generalize tr i = t at *
  have hVe : add3 w'.V (map3 ν t) = (add3 w.V t).map ν := by
    obtain ⟨a, b, c⟩ := t
    have ha := hti a (by simp [has3])
    have hb := hti b (by simp [has3])
    have hc := hti c (by simp [has3])
    unfold add3 map3
    dsimp only
    rw [hr.V, add_map hL hin ha, add_map hL (in_add hin ha) hb, add_map hL (in_add (in_add hin ha) hb) hc]
  refine ⟨hVe, ?_, ?_, ?_, rfl, ?_, hr.B⟩
  · rw [hr.O, List.map_append]; rfl
  · rw [hr.R, List.map_append]; rfl
  · dsimp only
    rw [hVe, hr.T, map3_fnd hL (fun x hx => (mem_add3.1 hx).elim (hin x) (hti x)) hti]
  · rw [hr.S]
theorem sim (hT : Tab look tr n) (hT' : Tab look' tr' n') (hL : Like In ν false tr n tr' n' σ) (hs : ∀ (w : Wk) (i : Nat), Reach look tr n w → w.G = [] → first n w.O = some i → first n' (w.O.map σ) = some (σ i) ∧ tr' (σ i) = map3 ν (tr i)) : Rel ν σ (fin look tr n) (fin look' tr' n') := by
  have key : ∀ w, Reach look tr n w → ∃ w', Reach look' tr' n' w' ∧ Rel ν σ w w' := by
    intro w hw
    induction hw with
    | init => exact ⟨init, .init, rel_init⟩
    | @next w w1 hw hn ih =>
      obtain ⟨w', h1, h2⟩ := ih
      have hi := reach_inv hT hw
      have hn2 := hn
      unfold WP.next at hn
      cases hG : w.G with
      | cons g r =>
        rw [hG] at hn
        injection hn with hn
        subst hn
        refine ⟨_, h1.next (w' := gate look' tr' { w' with G := r.map (mapE ν) } (ν g.1) (ν g.2)) ?_, gate_sim hT hT' hL hi h2 hG⟩
        unfold WP.next
        rw [h2.G, hG]
        rfl
      | nil =>
        rw [hG] at hn
        cases hf : first n w.O with
        | none => rw [hf] at hn; cases hn
        | some i =>
          rw [hf] at hn
          injection hn with hn
          subst hn
          obtain ⟨h3, h4⟩ := hs w i hw hG hf
          refine ⟨_, h1.next (w' := seed tr' w' (σ i)) ?_, seed_sim hL hi h2 (first_some hf).1 h4⟩
          unfold WP.next
          rw [h2.G, hG, h2.O]
          show (match first n' (w.O.map σ) with | some i => some (seed tr' w' i) | none => none) = _
          rw [h3]
  obtain ⟨w', h1, h2⟩ := key _ (fin_reach hT)
  obtain ⟨h3, h4⟩ := end_iff.1 (fin_end hT)
  have h5 : WP.next look' tr' n' w' = none := end_iff.2 ⟨by rw [h2.G, h3]; rfl, fun j hj => by
    obtain ⟨i, hi, rfl⟩ := hL.onto j hj
    rw [h2.O]
    exact List.mem_map.2 ⟨i, h4 i hi, rfl⟩⟩
  rw [← reach_fin hT' h1 h5]
  exact h2
end
section
variable {look : Int × Int → Option Nat} {tr : Nat → Tri} {n : Nat}
theorem next_pre {w w' : Wk} (h : next look tr n w = some w') : w.O <+: w'.O ∧ w.R <+: w'.R := by
  unfold next at h
  cases hG : w.G with
  | cons g r =>
    rw [hG] at h
    injection h with h
    subst h
    unfold gate
    dsimp only
    split
    · exact ⟨List.prefix_refl _, List.prefix_refl _⟩
    · split
      · exact ⟨List.prefix_refl _, List.prefix_refl _⟩
      · exact ⟨List.prefix_append .., List.prefix_append ..⟩
  | nil =>
    rw [hG] at h
    cases hf : first n w.O with
    | none => rw [hf] at h; cases h
    | some i =>
      rw [hf] at h
      injection h with h
      subst h
      exact ⟨List.prefix_append .., List.prefix_append ..⟩
theorem iter_pre : ∀ (k : Nat) (w : Wk), w.O <+: (iter look tr n k w).O ∧ w.R <+: (iter look tr n k w).R
  | 0, w => ⟨List.prefix_refl _, List.prefix_refl _⟩
  | k + 1, w => by
    rw [iter_succ]
    cases hn : next look tr n w with
    | none => exact ⟨List.prefix_refl _, List.prefix_refl _⟩
    | some w' =>
      have h1 := next_pre hn
      have h2 := iter_pre k w'
      exact ⟨h1.1.trans h2.1, h1.2.trans h2.2⟩
theorem reach_pre (hT : Tab look tr n) {w : Wk} (h : Reach look tr n w) : w.O <+: (fin look tr n).O ∧ w.R <+: (fin look tr n).R := by
  obtain ⟨k, hk⟩ := reach_is h
  have h2 : iter look tr n ((4 * n + 1) + k) init = fin look tr n := by rw [iter_add]; exact iter_stop (fin_end hT) k
  rw [Nat.add_comm, iter_add, hk] at h2
  rw [← h2]
  exact iter_pre _ _
theorem fin_inv (hT : Tab look tr n) : Inv look tr n (fin look tr n) := reach_inv hT (fin_reach hT)
theorem fin_G (hT : Tab look tr n) : (fin look tr n).G = [] := (end_iff.1 (fin_end hT)).1
theorem fin_O (hT : Tab look tr n) {i : Nat} : i ∈ (fin look tr n).O ↔ i < n := ⟨(fin_inv hT).olt i, (end_iff.1 (fin_end hT)).2 i⟩
theorem fin_Olen (hT : Tab look tr n) : (fin look tr n).O.length = n := by
  have h1 := len_le (m := List.range n) (fin_inv hT).ond fun x hx => List.mem_range.2 ((fin_inv hT).olt x hx)
  have h2 := len_le (l := List.range n) List.nodup_range fun x hx => (fin_O hT).2 (List.mem_range.1 hx)
  rw [List.length_range] at h1 h2
  omega
theorem fin_Rlen (hT : Tab look tr n) : (fin look tr n).R.length = n := by rw [(fin_inv hT).len, fin_Olen hT]
theorem fin_Tlen (hT : Tab look tr n) : (fin look tr n).T.length = n := by rw [(fin_inv hT).tm, List.length_map, fin_Rlen hT]
theorem fin_V (hT : Tab look tr n) {v : Int} : v ∈ (fin look tr n).V ↔ ∃ i, i < n ∧ has3 (tr i) v = true := by
  rw [(fin_inv hT).vO]
  constructor
  · rintro ⟨i, h1, h2⟩; exact ⟨i, (fin_O hT).1 h1, h2⟩
  · rintro ⟨i, h1, h2⟩; exact ⟨i, (fin_O hT).2 h1, h2⟩
end
end Go.Proofs.YtomknjmgcbbjlaaDoor.WP
