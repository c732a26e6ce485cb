import Derived.Test.YtomknjmgcbbjlaaDoorWalkT
import Derived.Test.YtomknjmgcbbjlaaDoorPWlkx12
namespace Go.Proofs.YtomknjmgcbbjlaaDoor.RF
open Go Go.RowKit Go.Proofs.YtomknjmgcbbjlaaDoor.PWlk Go.Proofs.YtomknjmgcbbjlaaDoorW.PrintWords
open Go.Proofs.YtomknjmgcbbjlaaDoor.MR (EvB EvP w1 FromI Told)
open Go.Proofs.YtomknjmgcbbjlaaDoor.MM (trs trT)
open Go.Proofs.YtomknjmgcbbjlaaDoor.WP (Wk fnd add)
open Go.Proofs.YtomknjmgcbbjlaaDoor.WW (to47 to62 to107 Small Surf small_of tab_of surf_of)
set_option linter.unusedVariables false
set_option linter.unusedSimpArgs false
set_option maxRecDepth 100000
theorem Ev.if_yes {c : Prop} [Decidable c] {α : Type} {f g : Nat → Option α} {r : α} (h : c) (k : Ev f r) : Ev (fun n => if c then f n else g n) r := Ev.congr (fun n => if_pos h) k
theorem Ev.if_no {c : Prop} [Decidable c] {α : Type} {f g : Nat → Option α} {r : α} (h : ¬ c) (k : Ev g r) : Ev (fun n => if c then f n else g n) r := Ev.congr (fun n => if_neg h) k
theorem Ev.some_bind {α β : Type} {a : α} {f : Nat → α → Option β} {r : β} (k : Ev (fun n => f n a) r) : Ev (fun n => (some a).bind (f n)) r := Ev.congr (fun n => rfl) k
theorem idx_first {l : List Int} {i : Nat} {x : Int} (hi : i < l.length) (h : l.getD i 0 = x) (hb : ∀ j, j < i → l.getD j 0 ≠ x) : fnd l x = i := by
  rw [List.getD_eq_getElem?_getD, List.getElem?_eq_getElem hi] at h
  have h : l[i] = x := h
  have hm : x ∈ l := h ▸ List.getElem_mem hi
  rw [WP.fnd_mem hm]
  have h1 := WP.idx_get hm
  obtain ⟨h2, h3⟩ := List.getElem?_eq_some_iff.1 h1
  have h4 : ¬ l.idxOf x < i := fun hlt => hb _ hlt (by rw [List.getD_eq_getElem?_getD, h1]; rfl)
  have h5 : ¬ i < l.idxOf x := fun hlt => by
    have := List.not_of_lt_findIdx (p := fun y => y == x) (xs := l) hlt
    simp [h] at this
  congr 1
  omega
theorem find0 (l : List Int) (x : Int) (hl : l.length ≤ 1000000) : ∀ d i : Nat, i + d = l.length → (∀ j, j < i → l.getD j 0 ≠ x) → Ev (fun k => lapidaryref11_find.l0 k l x (i : Int)) (fnd l x) := by
  intro d
  induction d with
  | zero =>
    intro i hi hb
    have hn : x ∉ l := fun hm => by
      have h1 := WP.idx_get hm
      obtain ⟨h2, h3⟩ := List.getElem?_eq_some_iff.1 h1
      exact hb (l.idxOf x) (by omega) (by rw [List.getD_eq_getElem?_getD, h1]; rfl)
    refine Ev.step (f := fun _ => some (-1)) (fun k => by rw [lapidaryref11_find.l0, if_neg (by omega)]) ?_
    rw [show fnd l x = -1 by unfold fnd; rw [if_neg hn]]
    exact Ev.now _
  | succ d ih =>
    intro i hi hb
    have hrd : rd l (i : Int) = l.getD i 0 := by unfold rd; rw [Int.toNat_natCast]
    by_cases h : l.getD i 0 = x
    · refine Ev.step (f := fun _ => some (i : Int)) (fun k => by rw [lapidaryref11_find.l0, if_pos (by omega), if_pos (by omega), hrd, if_pos h]) ?_
      rw [idx_first (by omega) h hb]
      exact Ev.now _
    · refine Ev.step (fun k => by rw [lapidaryref11_find.l0, if_pos (by omega), if_pos (by omega), hrd, if_neg h, w1 (by omega)]) (ih (i + 1) (by omega) fun j hj => ?_)
      rcases Nat.lt_succ_iff_lt_or_eq.1 hj with h1 | h1
      · exact hb j h1
      · rw [h1]; exact h
theorem find_ev (l : List Int) (x : Int) (hl : l.length ≤ 1000000) : Ev (fun k => lapidaryref11_find.f k l x) (fnd l x) := Ev.congr (fun k => rfl) (find0 l x hl l.length 0 (by omega) fun j hj => by omega)
theorem fnd_neg {l : List Int} {x : Int} : fnd l x < 0 ↔ x ∉ l := by
  unfold fnd
  by_cases h : x ∈ l
  · rw [if_pos h]; constructor
    · intro h2; omega
    · intro h2; exact absurd h h2
  · rw [if_neg h]; exact ⟨fun _ => h, fun _ => by decide⟩
theorem idx_cast {O : List Nat} {i : Nat} : (i : Int) ∈ O.map (fun i : Nat => (i : Int)) ↔ i ∈ O := by
  rw [List.mem_map]
  constructor
  · rintro ⟨j, h1, h2⟩; have : j = i := by omega
    exact this ▸ h1
  · intro h; exact ⟨i, h, rfl⟩
def lk (T : List S47) (e : Int × Int) : Int := match MC.look T e with | none => -1 | some m => (m : Int)
theorem has_ev (T : List S47) (a b : Int) (hT : T.length ≤ 1000000) : Ev (fun k => lapidaryref10_Has.f k T a b) (lk T (a, b)) := by
  obtain ⟨r, h1, h2⟩ := MR.has_ev T a b hT
  have : r = lk T (a, b) := by
    unfold lk
    rcases h2 with ⟨h3, h4⟩ | ⟨m, h3, _, h5, h6, h7⟩
    · cases h : MC.look T (a, b) with
      | none => exact h3
      | some i =>
        obtain ⟨h8, h9⟩ := MC.look_some h
        exact absurd h9 (h4 i (Nat.zero_le _) h8)
    · have : MC.look T (a, b) = some m := by
        unfold MC.look
        rw [List.find?_range_eq_some]
        exact ⟨by simpa using h6, List.mem_range.2 h5, fun j hj => by simpa using h7 j (Nat.zero_le _) hj⟩
      rw [this]
      exact h3
  rw [← this]
  exact h1
theorem meet_ev (V O : List Int) (T : List S47) (G : List S107) (S : List S62) (v : Int) (hV : V.length ≤ 500000) : Ev (fun k => lapidaryref11_meet.f k V O T G S v) (add V v, O, T, G, S) := by
  refine Ev.congr (fun k => rfl) (Ev.bind (f := fun k t169 => (if t169 < 0 then (if V.length < 17592186044416 then (some ((V ++ [v]), O, T, G, S)) else (none)) else (some (V, O, T, G, S)))) (find_ev V v (by omega)) ?_)
  unfold add
  by_cases h : v ∈ V
  · rw [if_pos h]
    exact Ev.if_no (fun h2 => fnd_neg.1 h2 h) (Ev.now _)
  · rw [if_neg h]
    exact Ev.if_yes (fnd_neg.2 h) (Ev.if_yes (by omega) (Ev.now _))
theorem take_ev (V O : List Int) (T : List S47) (G : List S107) (S : List S62) (i a b c fr : Int) (hV : V.length ≤ 500000) (hO : O.length ≤ 500000) (hT : T.length ≤ 500000) (hG : G.length ≤ 500000) : Ev (fun k => lapidaryref11_take.f k V O T G S i a b c fr) (V, O ++ [i], T ++ [⟨fnd V a, fnd V b, fnd V c⟩], (if fr = 0 then G ++ [⟨a, b⟩] else G) ++ [⟨b, c⟩, ⟨c, a⟩], S) := by
  unfold lapidaryref11_take.f
  refine Ev.if_yes (by omega) (Ev.some_bind ?_)
  refine Ev.bind (find_ev V a (by omega)) ?_
  refine Ev.bind (find_ev V b (by omega)) ?_
  refine Ev.bind (find_ev V c (by omega)) ?_
  refine Ev.if_yes (by omega) (Ev.some_bind ?_)
  by_cases h : fr = 0
  · simp only [if_pos h]
    refine Ev.if_yes (by omega) (Ev.some_bind (Ev.some_bind (Ev.if_yes (by simp; omega) (Ev.now _))))
  · simp only [if_neg h]
    refine Ev.some_bind (Ev.if_yes (by simp; omega) (Ev.now _))
theorem third_loop (V O : List Int) (Tn : List S47) (G : List S107) (S : List S62) (P : List S46) (T : List S47) (p q : Int) (i : Nat) (hi : i < T.length) (he : (q, p) ∈ Fan.edges3 (trs T i)) (hp : Fan.plain3 (trs T i)) {r : List Int × List Int × List S47 × List S107 × List S62}
    (h : Ev (fun k => lapidaryref11_gate.l0 k p q (i : Int) (WP.third (trs T i) p q) 3 V O Tn G S P T) r) : Ev (fun k => lapidaryref11_gate.l0 k p q (i : Int) 0 0 V O Tn G S P T) r := by
  have hrd : rd_T47 T (i : Int) = T.getD i z47 := by unfold rd_T47; rw [Int.toNat_natCast]
  have htr : trs T i = ((T.getD i z47).f0, (T.getD i z47).f1, (T.getD i z47).f2) := rfl
  rw [htr] at he hp h
  generalize T.getD i z47 = t at *
  obtain ⟨a, b, c⟩ := t
  obtain ⟨hab, hbc, hca⟩ := hp
  simp only at hab hbc hca
  simp only [Fan.edges3, List.mem_cons, List.not_mem_nil, or_false, Prod.mk.injEq] at he
  unfold WP.third at h
  simp only at h
  have e0 : wrap64 ((0 : Int) + 1) = 1 := MR.u0
  have e1 : wrap64 ((1 : Int) + 1) = 2 := MR.u1
  have e2 : wrap64 ((2 : Int) + 1) = 3 := MR.u2
  rcases he with ⟨rfl, rfl⟩ | ⟨rfl, rfl⟩ | ⟨rfl, rfl⟩
  ·
    rw [show q + p + c - p - q = c by omega] at h
    refine Ev.step (fun k => by rw [lapidaryref11_gate.l0, if_pos (by decide), if_pos (by omega), if_pos (by omega), if_pos rfl, hrd, if_neg hab, if_pos rfl, e0]) ?_
    refine Ev.step (fun k => by rw [lapidaryref11_gate.l0, if_pos (by decide), if_pos (by omega), if_pos (by omega), if_neg (by decide), if_pos rfl, hrd, if_pos rfl, e1]) ?_
    exact Ev.step (fun k => by rw [lapidaryref11_gate.l0, if_pos (by decide), if_pos (by omega), if_pos (by omega), if_neg (by decide), if_neg (by decide), if_pos rfl, hrd, if_neg (Ne.symm hbc), if_neg hca, e2]) h
  · rw [show a + q + p - p - q = a by omega] at h
    refine Ev.step (fun k => by rw [lapidaryref11_gate.l0, if_pos (by decide), if_pos (by omega), if_pos (by omega), if_pos rfl, hrd, if_neg (Ne.symm hca), if_neg hab, e0]) ?_
    refine Ev.step (fun k => by rw [lapidaryref11_gate.l0, if_pos (by decide), if_pos (by omega), if_pos (by omega), if_neg (by decide), if_pos rfl, hrd, if_neg hbc, if_pos rfl, e1]) ?_
    exact Ev.step (fun k => by rw [lapidaryref11_gate.l0, if_pos (by decide), if_pos (by omega), if_pos (by omega), if_neg (by decide), if_neg (by decide), if_pos rfl, hrd, if_pos rfl, e2]) h
  · rw [show p + b + q - p - q = b by omega] at h
    refine Ev.step (fun k => by rw [lapidaryref11_gate.l0, if_pos (by decide), if_pos (by omega), if_pos (by omega), if_pos rfl, hrd, if_pos rfl, e0]) ?_
    refine Ev.step (fun k => by rw [lapidaryref11_gate.l0, if_pos (by decide), if_pos (by omega), if_pos (by omega), if_neg (by decide), if_pos rfl, hrd, if_neg (Ne.symm hab), if_neg hbc, e1]) ?_
    exact Ev.step (fun k => by rw [lapidaryref11_gate.l0, if_pos (by decide), if_pos (by omega), if_pos (by omega), if_neg (by decide), if_neg (by decide), if_pos rfl, hrd, if_neg hca, if_pos rfl, e2]) h
abbrev RS := List Int × List Int × List S47 × List S107 × List S62
def st (w : Wk) : RS := (w.V, w.O.map (fun i : Nat => (i : Int)), w.T.map to47, w.G.reverse.map to107, w.S.map to62)
section
variable {P : List S46} {T : List S47}
theorem gate_ev (hS : Surf P T) (hs : MR.Single T) {w : Wk} (hi : WP.Inv (MC.look T) (trs T) T.length w) {g : Int × Int} {r : List (Int × Int)} (hG : w.G = g :: r) :
    Ev (fun k => lapidaryref11_gate.f k (st w).1 (st w).2.1 (st w).2.2.1 (st w).2.2.2.1 (st w).2.2.2.2 P T) (st (WP.gate (MC.look T) (trs T) { w with G := r } g.1 g.2)) := by
  obtain ⟨p, q⟩ := g
  have hsm := small_of hS hi
  have hTl := hS.hT
  have hGl : ((st w).2.2.2.1).length = r.length + 1 := by show (w.G.reverse.map to107).length = _; rw [hG]; simp
  have hr := hsm.G
  rw [hG, List.length_cons] at hr
  have hw : wrap64 (((st w).2.2.2.1.length : Int) - 1) = (r.length : Int) := by rw [hGl]; unfold wrap64; omega
  have hlast : rd_T107 (st w).2.2.2.1 (r.length : Int) = ⟨p, q⟩ := by
    show rd_T107 (w.G.reverse.map to107) (r.length : Int) = _
    unfold rd_T107
    rw [hG, Int.toNat_natCast, List.reverse_cons, List.map_append, List.getD_eq_getElem?_getD, List.getElem?_append_right (by simp)]
    simp [to107]
  have htake : (st w).2.2.2.1.take r.length = r.reverse.map to107 := by
    show (w.G.reverse.map to107).take _ = _
    rw [hG, List.reverse_cons, List.map_append, List.take_append_of_le_length (by simp), List.take_of_length_le (by simp)]
  unfold lapidaryref11_gate.f
  rw [hw, hlast]
  refine Ev.if_yes (by omega) (Ev.if_yes (by rw [hGl]; omega) (Ev.if_yes (by rw [hGl]; omega) (Ev.some_bind ?_)))
  rw [Int.toNat_natCast, htake]
  refine Ev.bind (has_ev T q p (by omega)) ?_
  unfold WP.gate
  simp only
  cases hl : MC.look T (q, p) with
  | none =>
    have h1 : lk T (q, p) = -1 := by unfold lk; rw [hl]
    rw [h1]
    refine Ev.if_yes (by decide) (Ev.if_yes (by show (w.S.map to62).length < _; have := hsm.S; simp; omega) ?_)
    simp only [st, List.map_append]
    exact Ev.now _
  | some i =>
    obtain ⟨hi1, he⟩ := MC.look_some hl
    have h1 : lk T (q, p) = (i : Int) := by unfold lk; rw [hl]
    rw [h1]
    refine Ev.if_no (by omega) (Ev.bind (find_ev _ _ (by show (w.O.map _).length ≤ _; have := hsm.O; simp; omega)) ?_)
    by_cases hO : i ∈ w.O
    · simp only
      rw [if_pos hO]
      refine Ev.if_yes ?_ (Ev.now _)
      have := mt fnd_neg.1 (fun h => h (idx_cast.2 hO))
      show fnd (w.O.map _) (i : Int) ≥ 0
      omega
    · simp only
      rw [if_neg hO]
      refine Ev.if_no ?_ ?_
      · have := fnd_neg.2 (fun h => hO (idx_cast.1 h))
        show ¬ fnd (w.O.map _) (i : Int) ≥ 0
        omega
      refine third_loop _ _ _ _ _ _ _ _ _ _ hi1 he (MR.good_of hS.hp hs |>.pl i hi1) ?_
      generalize WP.third (trs T i) p q = v
      have hadd : (add w.V v).length ≤ 500000 := by
        have := hsm.V
        unfold add
        split
        · omega
        · simp; omega
      refine Ev.step (fun k => by rw [lapidaryref11_gate.l0, if_neg (by decide)]) (Ev.bind (find_ev _ _ (by show w.V.length ≤ _; have := hsm.V; omega)) ?_)
      have hfin : ∀ s : S62, Ev (fun n => (lapidaryref11_meet.f n (st w).1 (st w).2.1 (st w).2.2.1 (r.reverse.map to107) ((st w).2.2.2.2 ++ [s]) v).bind fun bt => (lapidaryref11_take.f n bt.1 bt.2.1 bt.2.2.1 bt.2.2.2.1 bt.2.2.2.2 (i : Int) q p v 1).bind fun b2 => some (b2.1, b2.2.1, b2.2.2.1, b2.2.2.2.1, b2.2.2.2.2))
          (add w.V v, w.O.map (fun i : Nat => (i : Int)) ++ [(i : Int)], w.T.map to47 ++ [⟨fnd (add w.V v) q, fnd (add w.V v) p, fnd (add w.V v) v⟩], r.reverse.map to107 ++ [⟨p, v⟩, ⟨v, q⟩], w.S.map to62 ++ [s]) := by
        intro s
        refine Ev.bind (meet_ev _ _ _ _ _ v (by show w.V.length ≤ _; have := hsm.V; omega)) ?_
        refine Ev.bind (take_ev _ _ _ _ _ _ _ _ _ 1 hadd (by show (w.O.map _).length ≤ _; have := hsm.O; simp; omega) (by show (w.T.map _).length ≤ _; have := hsm.T; simp; omega) (by show (r.reverse.map _).length ≤ _; simp; omega)) ?_
        exact Ev.now _
      have hSl : (st w).2.2.2.2.length < 8796093022208 := by show (w.S.map to62).length < _; have := hsm.S; simp; omega
      by_cases hv : v ∈ w.V
      · refine Ev.if_yes ?_ (Ev.bind (find_ev _ _ (by show w.V.length ≤ _; have := hsm.V; omega)) (Ev.if_yes hSl ?_))
        · have := mt fnd_neg.1 (fun h => h hv)
          show fnd w.V v ≥ 0
          omega
        · have h2 := hfin ⟨3, fnd w.V v⟩
          rw [if_pos hv]
          have h3 : ∀ x y : RS, x = y → ∀ f : Nat → Option RS, Ev f x → Ev f y := fun x y e f h => e ▸ h
          refine h3 _ _ ?_ _ h2
          simp [st, to47, to107, to62, LK.map3]
      · refine Ev.if_no ?_ (Ev.if_yes hSl ?_)
        · have := fnd_neg.2 hv
          show ¬ fnd w.V v ≥ 0
          omega
        · have h2 := hfin ⟨2, 0⟩
          rw [if_neg hv]
          have h3 : ∀ x y : RS, x = y → ∀ f : Nat → Option RS, Ev f x → Ev f y := fun x y e f h => e ▸ h
          refine h3 _ _ ?_ _ h2
          simp [st, to47, to107, to62, LK.map3]
theorem seed_ev (hS : Surf P T) {w : Wk} (hi : WP.Inv (MC.look T) (trs T) T.length w) (hG : w.G = []) (i : Nat) {r : RS × Int} (h : Ev (fun k => lapidaryref11_Walk.l1 k (i : Int) P T (st (WP.seed (trs T) w i)).1 (st (WP.seed (trs T) w i)).2.1 (st (WP.seed (trs T) w i)).2.2.1 (st (WP.seed (trs T) w i)).2.2.2.1 (st (WP.seed (trs T) w i)).2.2.2.2) (r.1.1, r.1.2.1, r.1.2.2.1, r.1.2.2.2.1, r.1.2.2.2.2, r.2)) :
    Ev (fun k => (lapidaryref11_meet.f k (st w).1 (st w).2.1 (st w).2.2.1 (st w).2.2.2.1 ((st w).2.2.2.2 ++ [(⟨0, 0⟩ : S62)]) ((rd_T47 T (i : Int)).f0)).bind fun bt300 => ((lapidaryref11_meet.f k bt300.1 bt300.2.1 bt300.2.2.1 bt300.2.2.2.1 bt300.2.2.2.2 ((rd_T47 T (i : Int)).f1)).bind fun bt315 => ((lapidaryref11_meet.f k bt315.1 bt315.2.1 bt315.2.2.1 bt315.2.2.2.1 bt315.2.2.2.2 ((rd_T47 T (i : Int)).f2)).bind fun bt330 => ((lapidaryref11_take.f k bt330.1 bt330.2.1 bt330.2.2.1 bt330.2.2.2.1 bt330.2.2.2.2 (i : Int) ((rd_T47 T (i : Int)).f0) ((rd_T47 T (i : Int)).f1) ((rd_T47 T (i : Int)).f2) 0).bind fun bt345 => (lapidaryref11_Walk.l1 k (i : Int) P T bt345.1 bt345.2.1 bt345.2.2.1 bt345.2.2.2.1 bt345.2.2.2.2))))) (r.1.1, r.1.2.1, r.1.2.2.1, r.1.2.2.2.1, r.1.2.2.2.2, r.2) := by
  have hsm := small_of hS hi
  have hV := hsm.V
  have hadd : ∀ (L : List Int) (v : Int), (add L v).length ≤ L.length + 1 := fun L v => by
    unfold add
    split
    · omega
    · simp
  have hrd : rd_T47 T (i : Int) = T.getD i z47 := by unfold rd_T47; rw [Int.toNat_natCast]
  rw [hrd]
  have a1 := hadd w.V (T.getD i z47).f0
  have a2 := hadd (add w.V (T.getD i z47).f0) (T.getD i z47).f1
  have a3 := hadd (add (add w.V (T.getD i z47).f0) (T.getD i z47).f1) (T.getD i z47).f2
  refine Ev.bind (meet_ev _ _ _ _ _ _ (by show w.V.length ≤ _; omega)) ?_
  refine Ev.bind (meet_ev _ _ _ _ _ _ (by show (add w.V _).length ≤ _; omega)) ?_
  refine Ev.bind (meet_ev _ _ _ _ _ _ (by show (add (add w.V _) _).length ≤ _; omega)) ?_
  refine Ev.bind (take_ev _ _ _ _ _ _ _ _ _ 0 (by show (add (add (add w.V _) _) _).length ≤ _; omega) (by show (w.O.map _).length ≤ _; have := hsm.O; simp; omega) (by show (w.T.map _).length ≤ _; have := hsm.T; simp; omega) (by show (w.G.reverse.map _).length ≤ _; rw [hG]; simp)) ?_
  refine Ev.congr (fun k => ?_) h
  congr 1 <;> simp [st, WP.seed, hG, to47, to62, to107, LK.map3, WP.add3, trs, trT]
theorem loops (hS : Surf P T) (hs : MR.Single T) : ∀ (M : Nat) (w : Wk) (i : Nat), WP.Reach (MC.look T) (trs T) T.length w → WP.meas T.length w * (T.length + 1) + (T.length - i) < M →
    (w.G = [] → i ≤ T.length → (∀ j, j < i → j ∈ w.O) → Ev (fun k => lapidaryref11_Walk.l0 k (i : Int) P T (st w).1 (st w).2.1 (st w).2.2.1 (st w).2.2.2.1 (st w).2.2.2.2) ((st (wk T)).1, (st (wk T)).2.1, (st (wk T)).2.2.1, (st (wk T)).2.2.2.1, (st (wk T)).2.2.2.2, 0)) ∧
    (i < T.length → (∀ j, j ≤ i → j ∈ w.O) → Ev (fun k => lapidaryref11_Walk.l1 k (i : Int) P T (st w).1 (st w).2.1 (st w).2.2.1 (st w).2.2.2.1 (st w).2.2.2.2) ((st (wk T)).1, (st (wk T)).2.1, (st (wk T)).2.2.1, (st (wk T)).2.2.2.1, (st (wk T)).2.2.2.2, 0)) := by
  have hT := tab_of hS.hp hs
  have hTl := hS.hT
  intro M
  induction M with
  | zero => intro w i hr hM; omega
  | succ M ih =>
    intro w i hr hM
    have hi := WP.reach_inv hT hr
    constructor
    · intro hG hin hall
      by_cases hlt : i < T.length
      · by_cases hO : i ∈ w.O
        · refine Ev.step (fun k => by rw [lapidaryref11_Walk.l0, if_pos (by omega)]) (Ev.bind (find_ev _ _ (by show (w.O.map _).length ≤ _; have := (small_of hS hi).O; simp; omega)) (Ev.if_yes ?_ ?_))
          · have := mt fnd_neg.1 (fun h => h (idx_cast.2 hO))
            show fnd (w.O.map _) (i : Int) ≥ 0
            omega
          · rw [w1 (by omega)]
            exact (ih w (i + 1) hr (by omega)).1 hG (by omega) fun j hj => by
              rcases Nat.lt_succ_iff_lt_or_eq.1 hj with h1 | h1
              · exact hall j h1
              · exact h1 ▸ hO
        · have hf : WP.first T.length w.O = some i := WP.first_is hlt hO hall
          have hn : WP.next (MC.look T) (trs T) T.length w = some (WP.seed (trs T) w i) := by unfold WP.next; rw [hG]; simp only; rw [hf]
          have hm := WP.next_meas hT hi hn
          refine Ev.step (fun k => by rw [lapidaryref11_Walk.l0, if_pos (by omega)]) (Ev.bind (find_ev _ _ (by show (w.O.map _).length ≤ _; have := (small_of hS hi).O; simp; omega)) ?_)
          refine Ev.if_no ?_ ?_
          · have := fnd_neg.2 (fun h => hO (idx_cast.1 h))
            show ¬ fnd (w.O.map _) (i : Int) ≥ 0
            omega
          · refine Ev.if_yes (by show (w.S.map to62).length < _; have := (small_of hS hi).S; simp; omega) (Ev.if_yes (by omega) ?_)
            have hmul : WP.meas T.length (WP.seed (trs T) w i) * (T.length + 1) + (T.length + 1) ≤ WP.meas T.length w * (T.length + 1) := by
              have := Nat.mul_le_mul_right (T.length + 1) (Nat.succ_le_of_lt hm)
              rw [Nat.succ_mul] at this
              exact this
            refine seed_ev hS hi hG i (r := (((st (wk T)).1, (st (wk T)).2.1, (st (wk T)).2.2.1, (st (wk T)).2.2.2.1, (st (wk T)).2.2.2.2), 0)) ((ih _ i (hr.next hn) (by omega)).2 hlt fun j hj => ?_)
            show j ∈ w.O ++ [i]
            rw [List.mem_append, List.mem_singleton]
            rcases Nat.lt_or_eq_of_le hj with h1 | h1
            · exact .inl (hall j h1)
            · exact .inr h1
      · have he : WP.next (MC.look T) (trs T) T.length w = none := WP.end_iff.2 ⟨hG, fun j hj => hall j (by omega)⟩
        have hw := WP.reach_fin hT hr he
        refine Ev.step (f := fun _ => some _) (fun k => by rw [lapidaryref11_Walk.l0, if_neg (by omega)]) ?_
        rw [show wk T = w from hw.symm]
        exact Ev.now _
    · intro hlt hall
      cases hG : w.G with
      | nil =>
        refine Ev.step (fun k => by rw [lapidaryref11_Walk.l1, if_neg (by show ¬ ((w.G.reverse.map to107).length : Int) > 0; rw [hG]; simp), w1 (by omega)]) ?_
        exact (ih w (i + 1) hr (by omega)).1 hG (by omega) fun j hj => hall j (by omega)
      | cons g r =>
        have hn : WP.next (MC.look T) (trs T) T.length w = some (WP.gate (MC.look T) (trs T) { w with G := r } g.1 g.2) := by unfold WP.next; rw [hG]
        have hm := WP.next_meas hT hi hn
        have hmul : WP.meas T.length (WP.gate (MC.look T) (trs T) { w with G := r } g.1 g.2) * (T.length + 1) + (T.length + 1) ≤ WP.meas T.length w * (T.length + 1) := by
          have := Nat.mul_le_mul_right (T.length + 1) (Nat.succ_le_of_lt hm)
          rw [Nat.succ_mul] at this
          exact this
        refine Ev.step (fun k => by rw [lapidaryref11_Walk.l1, if_pos (by show ((w.G.reverse.map to107).length : Int) > 0; rw [hG]; simp)]) (Ev.bind (gate_ev hS hs hi hG) ?_)
        exact (ih _ i (hr.next hn) (by omega)).2 hlt fun j hj => (WP.next_pre hn).1.subset (hall j hj)
end
def rw0 (P : List S46) (T : List S47) (w : Wk) (c : Int) : List Int × List Int × List S47 × List S107 × List S62 × Int := if c = 0 then (w.V, w.O.map (fun i : Nat => (i : Int)), w.T.map to47, [], w.S.map to62, c) else ([], [], [], [], [], c)
theorem walk_ev (P : List S46) (T : List S47) : Ev (fun k => lapidaryref11_Walk.f k P T) (rw0 P T (wk T) (chk P T)) := by
  refine Ev.congr (fun k => rfl) (Ev.bind (chk_ev P T) ?_)
  by_cases h : chk P T = 0
  · refine Ev.if_yes h ?_
    have ht := chk_told P T
    rw [h] at ht
    obtain ⟨hS, hs⟩ := surf_of ht
    have hT := tab_of hS.hp hs
    have h1 := (loops hS hs _ WP.init 0 .init (Nat.lt_succ_self _)).1 rfl (Nat.zero_le _) fun j hj => by omega
    have h2 : (st (wk T)).2.2.2.1 = [] := by
      show ((WP.fin _ _ _).G.reverse.map to107) = []
      rw [WP.fin_G hT]; rfl
    rw [h2] at h1
    unfold rw0
    rw [if_pos h, h]
    exact h1
  · unfold rw0
    rw [if_neg h]
    exact Ev.if_no h (Ev.now _)
end Go.Proofs.YtomknjmgcbbjlaaDoor.RF
