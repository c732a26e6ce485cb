import Derived.Test.YtbdpfmpbooikiaaDoorIsWalk
import Derived.Test.YtbdpfmpbooikiaaDoorPIsrx11
namespace Go.Proofs.YtbdpfmpbooikiaaDoor.IT
open Go Go.RowKit Go.Proofs.YtbdpfmpbooikiaaDoor.PIsr Go.Proofs.YtbdpfmpbooikiaaDoorW.PrintWords Go.Proofs.YtbdpfmpbooikiaaDoorW.PrintLast Go.Proofs.YtbdpfmpbooikiaaDoorW.PrintMore
open Go.Proofs.YtbdpfmpbooikiaaDoor.IsoR (RenR renR_no renR_bad renR_yes yes ren ren_ev rref_ev getD_at told0 told_one told_map)
open Go.Proofs.YtbdpfmpbooikiaaDoor.MD (renP renP_len)
open Go.Proofs.YtbdpfmpbooikiaaDoor.MR (EvB EvP rd45 rd57 w1 has_ev)
set_option linter.unusedVariables false
set_option linter.unusedSimpArgs false
def IsQ (P : List S45) (T : List S57) (Q : List S45) (U : List S57) (num : List Int) : Prop :=
  MR.Told P T 0 ∧ yes P num ∧ MR.Told Q U 0 ∧ P.length = Q.length ∧ T.length = U.length ∧ (∀ v, v < P.length → (renP num P P.length).getD v z45 = Q.getD v z45) ∧ ∀ u ∈ U, least u ∈ (T.map (ren num)).map least
theorem isP_Q {P : List S45} {T : List S57} {Q : List S45} {U : List S57} {num : List Int} {c d : Int} (hc : MR.Told P T c) (hd : MR.Told Q U d) : IsP P T Q U num c d ↔ IsQ P T Q U num := by
  constructor
  · rintro ⟨rfl, h2, rfl, h4⟩
    exact ⟨hc, h2, hd, h4⟩
  · rintro ⟨h1, h2, h3, h4⟩
    exact ⟨told_one hc h1, h2, told_one hd h3, h4⟩
theorem renR_nil {P : List S45} {T : List S57} {num : List Int} {c : Int} (h : (RenR P T num c).2.2 ≠ 0) : (RenR P T num c).2.1 = [] := by
  by_cases h0 : c = 0
  · subst h0
    by_cases hy : yes P num
    · exact absurd ((renR3 T).2 ⟨rfl, hy⟩) h
    · rw [renR_bad hy]
  · rw [renR_no h0]
theorem wf_of {P : List S45} {T : List S57} (h : MR.Told P T 0) : ∀ q ∈ T, wfT q := by
  obtain ⟨⟨h1, h2⟩, hp, _, _⟩ := told0 h rfl
  intro q hq
  obtain ⟨i, hi, rfl⟩ := List.getElem_of_mem hq
  obtain ⟨a, b, c⟩ := (hp.2 i hi).1
  rw [getD_at T i z57 hi] at a b c
  exact ⟨WalkArith.wf_i64 (by omega), WalkArith.wf_i64 (by omega), WalkArith.wf_i64 (by omega)⟩
theorem ref_l1 (Q : List S45) (U : List S57) (hp : MR.Plain Q U) (hQ : Q.length ≤ 4000) (hs : MR.Single U) (hU : U.length ≤ 8000) (R : List S45) (X : List S57) (n : Nat) (hX : ∀ q ∈ X, -1000000 ≤ q.f0 ∧ q.f0 ≤ 1000000 ∧ -1000000 ≤ q.f1 ∧ q.f1 ≤ 1000000 ∧ -1000000 ≤ q.f2 ∧ q.f2 ≤ 1000000) (hXl : X.length ≤ 1000000) :
    ∀ e i : Nat, i + e = X.length → EvB (fun k => lapidaryref13_Is.l1 k (i : Int) Q U R X) (∀ j, i ≤ j → j < X.length → least (X.getD j z57) ∈ U.map least) := by
  intro e
  induction e with
  | zero =>
    intro i hi
    exact EvB.step (g := fun _ => some true) (fun k => by rw [lapidaryref13_Is.l1, if_neg (by omega)]) (EvB.now ⟨fun _ j h1 h2 => by omega, fun _ => rfl⟩)
  | succ e ih =>
    intro i hi
    have hq := hX (X.getD i z57) (by rw [getD_at X i z57 (by omega)]; exact List.getElem_mem _)
    obtain ⟨r, hr, hF⟩ := has_ev U (X.getD i z57).f0 (X.getD i z57).f1 (by omega)
    have hone := one_tri hp hs (X.getD i z57) r hF
    have hrest := ih (i + 1) (by omega)
    refine EvB.iff (R := least (X.getD i z57) ∈ U.map least ∧ ∀ j, i + 1 ≤ j → j < X.length → least (X.getD j z57) ∈ U.map least) ⟨fun h j h1 h2 => ?_, fun h => ⟨h i (Nat.le_refl _) (by omega), fun j h1 h2 => h j (by omega) h2⟩⟩ ?_
    · by_cases hj : j = i
      · subst hj; exact h.1
      · exact h.2 j (by omega) h2
    refine EvB.step (fun k => by rw [lapidaryref13_Is.l1, if_pos (by omega), if_pos (by omega), rd57, w1 (by omega)]) ?_
    have hb : ∀ {f : Nat → Int → Option Bool} {R : Prop}, EvB (fun k => f k r) R → EvB (fun k => (lapidaryref10_Has.f k U (X.getD i z57).f0 (X.getD i z57).f1).bind fun t => f k t) R := by
      rintro f R ⟨b, h1, h2⟩
      exact ⟨b, Ev.bind (f := f) hr h1, h2⟩
    refine hb (f := fun k t231 => (if t231 < 0 then (some false) else (if 0 ≤ t231 then (if t231 < (U.length : Int) then (if (wrap64 ((wrap64 (((rd_T57 U t231).f0) + ((rd_T57 U t231).f1))) + ((rd_T57 U t231).f2))) = (wrap64 ((wrap64 (((X.getD i z57).f0) + ((X.getD i z57).f1))) + ((X.getD i z57).f2))) then (lapidaryref13_Is.l1 k ((i + 1 : Nat) : Int) Q U R X) else (some false)) else (none)) else (none)))) ?_
    by_cases h0 : r < 0
    · refine EvB.congr (fun k => if_pos h0) (EvB.now ⟨fun h => (nomatch h), fun h => ?_⟩)
      have := (hone.2 h.1).1
      omega
    · have hlt : r < (U.length : Int) := by
        rcases hF with ⟨h1, _⟩ | ⟨m, rfl, _, hm, _⟩
        · omega
        · omega
      have hu := (hp.2 r.toNat (by omega)).1
      have hrd : rd_T57 U r = U.getD r.toNat z57 := rfl
      have hsum : (wrap64 ((wrap64 (((rd_T57 U r).f0) + ((rd_T57 U r).f1))) + ((rd_T57 U r).f2))) = (wrap64 ((wrap64 (((X.getD i z57).f0) + ((X.getD i z57).f1))) + ((X.getD i z57).f2))) ↔ sum3 (U.getD r.toNat z57) = sum3 (X.getD i z57) := by
        rw [hrd]
        unfold sum3
        obtain ⟨u1, u2, u3⟩ := hu
        obtain ⟨x1, x2, x3, x4, x5, x6⟩ := hq
        generalize U.getD r.toNat z57 = u at *
        generalize X.getD i z57 = x at *
        rw [IsoB.w64 (x := u.f0 + u.f1) (by omega) (by omega), IsoB.w64 (x := x.f0 + x.f1) (by omega) (by omega), IsoB.w64 (x := u.f0 + u.f1 + u.f2) (by omega) (by omega), IsoB.w64 (x := x.f0 + x.f1 + x.f2) (by omega) (by omega)]
      refine EvB.congr (fun k => by rw [if_neg h0, if_pos (by omega), if_pos hlt]) ?_
      refine EvB.iff (R := (wrap64 ((wrap64 (((rd_T57 U r).f0) + ((rd_T57 U r).f1))) + ((rd_T57 U r).f2))) = (wrap64 ((wrap64 (((X.getD i z57).f0) + ((X.getD i z57).f1))) + ((X.getD i z57).f2))) ∧ ∀ j, i + 1 ≤ j → j < X.length → least (X.getD j z57) ∈ U.map least) ?_ (EvB.yes fun _ => hrest)
      rw [hsum]
      exact ⟨fun h => ⟨hone.1 ⟨by omega, h.1⟩, h.2⟩, fun h => ⟨(hone.2 h.1).2, h.2⟩⟩
theorem ref_l0 (Q : List S45) (U : List S57) (hp : MR.Plain Q U) (hQ : Q.length ≤ 4000) (hs : MR.Single U) (hU : U.length ≤ 8000) (R : List S45) (X : List S57) (hl : R.length = Q.length) (hX : ∀ q ∈ X, -1000000 ≤ q.f0 ∧ q.f0 ≤ 1000000 ∧ -1000000 ≤ q.f1 ∧ q.f1 ≤ 1000000 ∧ -1000000 ≤ q.f2 ∧ q.f2 ≤ 1000000) (hXl : X.length ≤ 1000000) :
    ∀ e i : Nat, i + e = R.length → EvB (fun k => lapidaryref13_Is.l0 k (i : Int) Q U R X) ((∀ j, i ≤ j → j < R.length → R.getD j z45 = Q.getD j z45) ∧ ∀ j, j < X.length → least (X.getD j z57) ∈ U.map least) := by
  intro e
  induction e with
  | zero =>
    intro i hi
    refine EvB.step (fun k => by rw [lapidaryref13_Is.l0, if_neg (by omega)]; rfl) (EvB.iff ?_ (ref_l1 Q U hp hQ hs hU R X 0 hX hXl X.length 0 (by omega)))
    exact ⟨fun h => ⟨fun j h1 h2 => by omega, fun j hj => h j (Nat.zero_le _) hj⟩, fun h j _ hj => h.2 j hj⟩
  | succ e ih =>
    intro i hi
    have hrest := ih (i + 1) (by omega)
    refine EvB.step (fun k => by rw [lapidaryref13_Is.l0, if_pos (by omega), if_pos (by omega), if_pos (by omega), rd45, rd45, w1 (by omega)]) ?_
    have hne : ((!(((R.getD i z45).f0) == ((Q.getD i z45).f0)) || (!(((R.getD i z45).f1) == ((Q.getD i z45).f1)) || (!(((R.getD i z45).f2) == ((Q.getD i z45).f2))))) = true) ↔ ¬ R.getD i z45 = Q.getD i z45 := by
      generalize R.getD i z45 = p
      generalize Q.getD i z45 = q
      cases p; cases q
      simp only [Bool.or_eq_true, Bool.not_eq_true', beq_eq_false_iff_ne, S45.mk.injEq]
      omega
    refine EvB.iff (R := ¬ ((!(((R.getD i z45).f0) == ((Q.getD i z45).f0)) || (!(((R.getD i z45).f1) == ((Q.getD i z45).f1)) || (!(((R.getD i z45).f2) == ((Q.getD i z45).f2))))) = true) ∧ ((∀ j, i + 1 ≤ j → j < R.length → R.getD j z45 = Q.getD j z45) ∧ ∀ j, j < X.length → least (X.getD j z57) ∈ U.map least)) ?_ (EvB.no fun _ => hrest)
    rw [hne, Classical.not_not]
    constructor
    · rintro ⟨h1, h2, h3⟩
      refine ⟨fun j h4 h5 => ?_, h3⟩
      by_cases hj : j = i
      · subst hj; exact h1
      · exact h2 j (by omega) h5
    · rintro ⟨h1, h2⟩
      exact ⟨h1 i (Nat.le_refl _) (by omega), fun j h4 h5 => h1 j (by omega) h5, h2⟩
theorem ref_j0 (b : Bool) (h : b = true) (Q : List S45) (U : List S57) (R : List S45) (X : List S57) : EvB (fun k => lapidaryref13_Is.j0 k b Q U R X) False :=
  EvB.step (g := fun _ => some false) (fun k => by rw [lapidaryref13_Is.j0, if_pos h]) (EvB.now ⟨fun h => (nomatch h), False.elim⟩)
theorem EvB.bind {α : Type} {g : Nat → Option α} {v : α} {f : Nat → α → Option Bool} {R : Prop} (hg : Ev g v) (h : EvB (fun k => f k v) R) : EvB (fun k => (g k).bind fun t => f k t) R := by
  obtain ⟨b, h1, h2⟩ := h
  exact ⟨b, Ev.bind (f := f) hg h1, h2⟩
theorem ref_is (P : List S45) (T : List S57) (Q : List S45) (U : List S57) (num : List Int) (hn : num.length ≤ 1000000) : EvB (fun k => lapidaryref13_Is.f k P T Q U num) (IsQ P T Q U num) := by
  obtain ⟨c, hc, htc⟩ := MR.check_ev P T
  obtain ⟨d, hd, htd⟩ := MR.check_ev Q U
  refine EvB.congr (fun k => rfl) (EvB.bind (f := fun k (bt218 : List S45 × List S57 × Int) => (if bt218.2.2 = 0 then ((lapidaryref10_Check.f k Q U).bind fun t226 => (if t226 = 0 then (if (bt218.1.length : Int) = (Q.length : Int) then (lapidaryref13_Is.j0 k ((bt218.2.1.length : Int) != (U.length : Int)) Q U bt218.1 bt218.2.1) else (lapidaryref13_Is.j0 k true Q U bt218.1 bt218.2.1)) else (lapidaryref13_Is.j0 k true Q U bt218.1 bt218.2.1))) else (lapidaryref13_Is.j0 k true Q U bt218.1 bt218.2.1))) (rref_ev hc htc hn) ?_)
  by_cases h0 : (RenR P T num c).2.2 = 0
  · obtain ⟨rfl, hy⟩ := (renR3 T).1 h0
    refine EvB.congr (fun k => if_pos h0) (EvB.bind (f := fun k t226 => (if t226 = 0 then (if ((RenR P T num 0).1.length : Int) = (Q.length : Int) then (lapidaryref13_Is.j0 k (((RenR P T num 0).2.1.length : Int) != (U.length : Int)) Q U (RenR P T num 0).1 (RenR P T num 0).2.1) else (lapidaryref13_Is.j0 k true Q U (RenR P T num 0).1 (RenR P T num 0).2.1)) else (lapidaryref13_Is.j0 k true Q U (RenR P T num 0).1 (RenR P T num 0).2.1))) hd ?_)
    rw [renR_yes hy]
    dsimp only
    by_cases h1 : d = 0
    · subst h1
      obtain ⟨⟨hq1, hq2⟩, hqp, hqs, _⟩ := told0 htd rfl
      obtain ⟨⟨hp1, hp2⟩, hpp, hps, _⟩ := told0 htc rfl
      refine EvB.congr (fun k => if_pos rfl) ?_
      by_cases h2 : P.length = Q.length
      · refine EvB.congr (fun k => by rw [if_pos (by rw [renP_len]; omega)]) ?_
        by_cases h3 : T.length = U.length
        · refine EvB.step (g := fun k => lapidaryref13_Is.l0 k 0 Q U (renP num P P.length) (T.map (ren num))) (fun k => by rw [lapidaryref13_Is.j0, if_neg (by rw [List.length_map, h3]; simp)]) ?_
          have hX : ∀ q ∈ T.map (ren num), -1000000 ≤ q.f0 ∧ q.f0 ≤ 1000000 ∧ -1000000 ≤ q.f1 ∧ q.f1 ≤ 1000000 ∧ -1000000 ≤ q.f2 ∧ q.f2 ≤ 1000000 := by
            have ht2 := told_map htc hy.1 hy.2
            obtain ⟨⟨hp1', _⟩, hpp', _, _⟩ := told0 ht2 rfl
            intro q hq
            obtain ⟨i, hi, rfl⟩ := List.getElem_of_mem hq
            obtain ⟨a, b, c⟩ := (hpp'.2 i hi).1
            rw [getD_at _ i z57 hi] at a b c
            rw [renP_len] at a b c
            omega
          have hs2 := (told0 (told_map htc hy.1 hy.2) rfl)
          obtain ⟨_, _, hsX, _⟩ := hs2
          refine EvB.iff ?_ (ref_l0 Q U hqp hq1 hqs hq2 (renP num P P.length) (T.map (ren num)) (by rw [renP_len]; exact h2) hX (by rw [List.length_map]; omega) (renP num P P.length).length 0 (by omega))
          have hbw := both_ways (R := T.map (ren num)) (U := U) hsX hqs (by rw [List.length_map]; exact h3)
          constructor
          · rintro ⟨e1, e2⟩
            refine ⟨htc, hy, htd, h2, h3, fun v hv => e1 v (Nat.zero_le _) (by rw [renP_len]; exact hv), hbw.2 fun r hr => ?_⟩
            obtain ⟨i, hi, rfl⟩ := List.getElem_of_mem hr
            have := e2 i hi
            rwa [getD_at _ i z57 hi] at this
          · rintro ⟨_, _, _, _, _, e1, e2⟩
            refine ⟨fun j _ hj => e1 j (by rw [renP_len] at hj; exact hj), fun j hj => ?_⟩
            rw [getD_at _ j z57 hj]
            exact hbw.1 e2 _ (List.getElem_mem _)
        · refine EvB.iff ?_ (ref_j0 _ (by rw [List.length_map]; exact bne_iff_ne.2 (by omega)) Q U _ _)
          exact ⟨False.elim, fun h => h3 h.2.2.2.2.1⟩
      · refine EvB.congr (fun k => by rw [if_neg (by rw [renP_len]; omega)]) (EvB.iff ?_ (ref_j0 _ rfl Q U _ _))
        exact ⟨False.elim, fun h => h2 h.2.2.2.1⟩
    · refine EvB.congr (fun k => if_neg h1) (EvB.iff ?_ (ref_j0 _ rfl Q U _ _))
      exact ⟨False.elim, fun h => h1 (told_one htd h.2.2.1)⟩
  · refine EvB.congr (fun k => if_neg h0) (EvB.iff ?_ (ref_j0 _ rfl Q U _ _))
    exact ⟨False.elim, fun h => h0 ((renR3 T).2 ⟨told_one htc h.1, h.2.1⟩)⟩
end Go.Proofs.YtbdpfmpbooikiaaDoor.IT
namespace Go.Proofs.YtbdpfmpbooikiaaDoor.PIsr
open Go Go.RowKit Go.Proofs.YtbdpfmpbooikiaaDoorW.PrintWords Go.Proofs.YtbdpfmpbooikiaaDoorW.PrintLast Go.Proofs.YtbdpfmpbooikiaaDoorW.PrintMore
set_option linter.unusedVariables false
open Classical in
noncomputable def iso_Is.f (l0_0 : List (S45)) (l0_1 : List (S57)) (l1_0 : List (S45)) (l1_1 : List (S57)) (l2 : List Int) : Option (Bool) := if l2.length ≤ 1000000 then some (decide (IT.IsQ l0_0 l0_1 l1_0 l1_1 l2)) else none
theorem iso_Is.calls (A0_0 : Option Addr) (c0_0 : Nat) (l0_0 : List (S45)) (A0_1 : Option Addr) (c0_1 : Nat) (l0_1 : List (S57)) (A1_0 : Option Addr) (c1_0 : Nat) (l1_0 : List (S45)) (A1_1 : Option Addr) (c1_1 : Nat) (l1_1 : List (S57)) (A2 : Option Addr) (c2 : Nat) (l2 : List Int) (r : Bool) (w : World)
    (hr0_0 : Kd.C k45 w A0_0 l0_0.length l0_0) (hc0_0 : l0_0.length ≤ c0_0) (hr0_1 : Kd.C k57 w A0_1 l0_1.length l0_1) (hc0_1 : l0_1.length ≤ c0_1) (hr1_0 : Kd.C k45 w A1_0 l1_0.length l1_0) (hc1_0 : l1_0.length ≤ c1_0) (hr1_1 : Kd.C k57 w A1_1 l1_1.length l1_1) (hc1_1 : l1_1.length ≤ c1_1) (hr2 : Kd.C (Kd.int .i64) w A2 l2.length l2) (hc2 : l2.length ≤ c2)
    (hG : Kd.C k57 w (some ⟨0, 0, none⟩) 1 [⟨1, 2, 0⟩]) (h : iso_Is.f l0_0 l0_1 l1_0 l1_1 l2 = some r) :
    Calls Tryd.prog 15 #[.agg #[.slice A0_0 l0_0.length c0_0, .slice A0_1 l0_1.length c0_1], .agg #[.slice A1_0 l1_0.length c1_0, .slice A1_1 l1_1.length c1_1], .slice A2 l2.length c2] w fun e w' => e = .returned (.bool r) ∧ Below w.heap.size w w' := by
  unfold iso_Is.f at h
  by_cases hn : l2.length ≤ 1000000
  · rw [if_pos hn] at h
    injection h with h
    obtain ⟨c, hc, htc⟩ := MR.check_ev l0_0 l0_1
    obtain ⟨d, hd, htd⟩ := MR.check_ev l1_0 l1_1
    obtain ⟨k, hk⟩ := (IsoR.ren_ev hc htc hn).rounds
    refine IT.is15 l0_0 l0_1 l1_0 l1_1 l2 c d k hk htd ?_ ?_ (fun h0 => by subst h0; exact IT.wf_of htd) r ?_ (fun h0 => by subst h0; obtain ⟨_, _, hs, _⟩ := IsoR.told0 htd rfl; exact hs) A0_0 A0_1 A1_0 A1_1 A2 c0_0 c0_1 c1_0 c1_1 c2 w hr0_0 hc0_0 hr0_1 hc0_1 hr1_0 hc1_0 hr1_1 hc1_1 hr2 hc2 hG
    · intro h0
      subst h0
      obtain ⟨⟨h1, h2⟩, _, _, _⟩ := IsoR.told0 htc rfl
      exact ⟨by omega, by omega⟩
    · intro q hq
      by_cases h0 : (IsoR.RenR l0_0 l0_1 l2 c).2.2 = 0
      · obtain ⟨rfl, hy⟩ := (IT.renR3 l0_1).1 h0
        rw [IsoR.renR_yes hy] at hq
        exact IT.wf_of (IsoR.told_map htc hy.1 hy.2) q hq
      · rw [IT.renR_nil h0] at hq
        cases hq
    · rw [IT.isP_Q htc htd, ← h]
      simp
  · rw [if_neg hn] at h
    cases h
end Go.Proofs.YtbdpfmpbooikiaaDoor.PIsr
