import Derived.Test.YtckemiefcdpofaaDoorEdgesP
namespace Go.Proofs.YtckemiefcdpofaaDoor.ED
open Go Go.RowKit Go.Lib Go.Sort Go.Proofs.YtckemiefcdpofaaDoor.OR Go.Proofs.YtckemiefcdpofaaDoor.Mem Go.Proofs.YtckemiefcdpofaaDoor.PMsr Go.Proofs.YtckemiefcdpofaaDoorW.PrintWords Go.Proofs.YtckemiefcdpofaaDoorW.PrintLast Go.Proofs.YtckemiefcdpofaaDoorW.PrintMore
open Go.Proofs.YtckemiefcdpofaaDoor.MM (Gl datE edgesU)
set_option linter.unusedVariables false
set_option linter.unnecessarySimpa false
set_option linter.unusedSimpArgs false
set_option maxRecDepth 100000
theorem border17_no (P : List S55) (T : List S36) (r : Int) (ht : MR.Told P T r) (h0 : r ≠ 0) (A0 : Option Addr) (c0 : Nat) (A1 : Option Addr) (c1 : Nat) (w : World) (hr0 : Kd.C k55 w A0 P.length P) (hc0 : P.length ≤ c0) (hr1 : Kd.C k36 w A1 T.length T) (hc1 : T.length ≤ c1) (hG : Gl w) :
    Calls Tryd.prog 17 #[.agg #[.slice A0 P.length c0, .slice A1 T.length c1]] w fun e w' => e = .returned (.tuple #[.slice none 0 0, .int .i64 r]) ∧ RowKit.Below w.heap.size w w' := by
  have hm1 := Blk.here w 25 #[.slice A0 P.length c0, .slice A1 T.length c1]
  have hb1 := (Below.refl w.heap.size w).alloc (Nat.le_refl _) (.cells #[.slice A0 P.length c0, .slice A1 T.length c1] 25 (0, 0))
  have x0 := hm1.cell 0
  have x1 := hm1.cell 1
  have hC := Lib.hid (MC.check28 P T r ht A0 c0 A1 c1 (w.alloc (.cells #[.slice A0 P.length c0, .slice A1 T.length c1] 25 (0, 0))) (Kd.C_alloc hr0 _) hc0 (Kd.C_alloc hr1 _) hc1 (hG.alloc _))
  have d0 : (r != 0) = true := bne_iff_ne.2 h0
  clear ht
  go_enter Tryd.func17, Tryd.ntmps17
  go_wp2_with fail
  refine hC.out.mono ?_
  rintro e w2 ⟨rfl, hb2⟩
  have hbw2 := hb1.trans (hb2.mono hb1.size)
  go_wp2_with fail
  go_ret2
  exact ⟨rfl, hbw2⟩
def bordL (T : List S36) : List (Int × Int) := ((edgesU T T.length).map (·.1)).filter fun x => decide ((x.2, x.1) ∉ (edgesU T T.length).map (·.1))
def borderOf (T : List S36) : List (Int × Int) := sorted (bordL T)
theorem bordL_nodup {P : List S55} {T : List S36} (ht : MR.Told P T 0) : (bordL T).Nodup := by
  obtain ⟨_, _, hp, hs⟩ := told_ok ht
  refine List.Pairwise.filter _ (MC.edgesU_nodup (fun i hi => (hp.2 i hi).2) T.length (Nat.le_refl _) ?_)
  intro j hj e he m hm hc
  have := hs j hj m (by omega) e he hc
  omega
theorem mem_bordL {T : List S36} {x : Int × Int} : x ∈ bordL T ↔ x ∈ (edgesU T T.length).map (·.1) ∧ (x.2, x.1) ∉ (edgesU T T.length).map (·.1) := by
  unfold bordL
  rw [List.mem_filter, decide_eq_true_iff]
theorem borderOf_up {P : List S55} {T : List S36} (ht : MR.Told P T 0) : EP.Up (borderOf T) := EP.sorted_up (bordL_nodup ht)
theorem mem_borderOf {T : List S36} {x : Int × Int} : x ∈ borderOf T ↔ x ∈ (edgesU T T.length).map (·.1) ∧ (x.2, x.1) ∉ (edgesU T T.length).map (·.1) := by
  unfold borderOf
  rw [EP.mem_sorted, mem_bordL]
theorem bord_is {P : List S55} {T : List S36} (ht : MR.Told P T 0) {L : List (Int × Int)} (hB : Bord (datE (edgesU T T.length)) (fun _ => false) L) : sorted L = borderOf T := EP.border_eq ht hB (borderOf_up ht) fun x => mem_borderOf
end Go.Proofs.YtckemiefcdpofaaDoor.ED
namespace Go.Proofs.YtckemiefcdpofaaDoor.PMsr
open Go Go.RowKit Go.Proofs.YtckemiefcdpofaaDoorW.PrintWords Go.Proofs.YtckemiefcdpofaaDoorW.PrintLast Go.Proofs.YtckemiefcdpofaaDoorW.PrintMore
open Go.Proofs.YtckemiefcdpofaaDoor.ED (edgesOf borderOf)
set_option linter.unusedVariables false
set_option linter.unusedSimpArgs false
def toS52 (x : Int × Int) : S52 := ⟨x.1, x.2⟩
theorem R_toS52 {w : World} {base : Nat} {ok : Nat → Prop} {v : Value} {l : List (Int × Int)} (h : Kd.R ED.k52 52 w base ok v l) : Kd.R k52 52 w base ok v (l.map toS52) := by
  obtain ⟨h0, inner, hown, hr⟩ := h
  refine ⟨h0, inner, by rw [List.length_map]; exact hown, by rw [List.length_map]; exact hr.1, fun j p hj => ?_⟩
  rw [List.getElem?_map, Option.map_eq_some_iff] at hj
  obtain ⟨q, hq, rfl⟩ := hj
  exact hr.2 j q hq
noncomputable def chk (P : List S55) (T : List S36) : Int := (MR.check_ev P T).choose
theorem chk_ev (P : List S55) (T : List S36) : Ev (fun n => lapidaryref10_Check.f n P T) (chk P T) := (MR.check_ev P T).choose_spec.1
theorem chk_told (P : List S55) (T : List S36) : MR.Told P T (chk P T) := (MR.check_ev P T).choose_spec.2
noncomputable def mesh_Edges.f (l0_0 : List (S55)) (l0_1 : List (S36)) : Option (List (S52) × Int) := some (if chk l0_0 l0_1 = 0 then (edgesOf l0_1).map toS52 else [], chk l0_0 l0_1)
theorem mesh_Edges.calls (A0_0 : Option Addr) (c0_0 : Nat) (l0_0 : List (S55)) (A0_1 : Option Addr) (c0_1 : Nat) (l0_1 : List (S36)) (r1 : List (S52)) (r2 : Int) (w : World) (hr0_0 : Kd.C k55 w A0_0 l0_0.length l0_0) (hc0_0 : l0_0.length ≤ c0_0) (hr0_1 : Kd.C k36 w A0_1 l0_1.length l0_1) (hc0_1 : l0_1.length ≤ c0_1) (hG : Kd.C k36 w (some ⟨0, 0, none⟩) 1 [⟨1, 2, 0⟩]) (h : mesh_Edges.f l0_0 l0_1 = some (r1, r2)) :
    Calls Tryd.prog 16 #[.agg #[.slice A0_0 l0_0.length c0_0, .slice A0_1 l0_1.length c0_1]] w fun e w' => ∃ v0_ : Value, e = .returned (.tuple #[v0_, .int .i64 r2]) ∧ Kd.R k52 52 w' w.heap.size (fun _ => True) v0_ r1 ∧ Below w.heap.size w w' := by
  unfold mesh_Edges.f at h
  injection h with h
  injection h with h1 h2
  subst h1
  subst h2
  refine (ED.edges16 l0_0 l0_1 _ (chk_told l0_0 l0_1) A0_0 c0_0 A0_1 c0_1 w hr0_0 hc0_0 hr0_1 hc0_1 hG).mono ?_
  rintro e w' ⟨v, rfl, h3, h4, hb⟩
  refine ⟨v, rfl, ?_, hb⟩
  by_cases h0 : chk l0_0 l0_1 = 0
  · rw [if_pos h0]; exact R_toS52 (h4 h0)
  · rw [if_neg h0, h3 h0]; exact Kd.R_nil _ _ _ _ _
noncomputable def mesh_Border.f (l0_0 : List (S55)) (l0_1 : List (S36)) : Option (List (S52) × Int) := some (if chk l0_0 l0_1 = 0 then (borderOf l0_1).map toS52 else [], chk l0_0 l0_1)
theorem mesh_Border.calls (A0_0 : Option Addr) (c0_0 : Nat) (l0_0 : List (S55)) (A0_1 : Option Addr) (c0_1 : Nat) (l0_1 : List (S36)) (r1 : List (S52)) (r2 : Int) (w : World) (hr0_0 : Kd.C k55 w A0_0 l0_0.length l0_0) (hc0_0 : l0_0.length ≤ c0_0) (hr0_1 : Kd.C k36 w A0_1 l0_1.length l0_1) (hc0_1 : l0_1.length ≤ c0_1) (hG : Kd.C k36 w (some ⟨0, 0, none⟩) 1 [⟨1, 2, 0⟩]) (h : mesh_Border.f l0_0 l0_1 = some (r1, r2)) :
    Calls Tryd.prog 17 #[.agg #[.slice A0_0 l0_0.length c0_0, .slice A0_1 l0_1.length c0_1]] w fun e w' => ∃ v0_ : Value, e = .returned (.tuple #[v0_, .int .i64 r2]) ∧ Kd.R k52 52 w' w.heap.size (fun _ => True) v0_ r1 ∧ Below w.heap.size w w' := by
  unfold mesh_Border.f at h
  injection h with h
  injection h with h1 h2
  subst h1
  subst h2
  have ht := chk_told l0_0 l0_1
  by_cases h0 : chk l0_0 l0_1 = 0
  · rw [if_pos h0, h0]
    rw [h0] at ht
    refine (ED.border17 l0_0 l0_1 ht A0_0 c0_0 A0_1 c0_1 w hr0_0 hc0_0 hr0_1 hc0_1 hG).mono ?_
    rintro e w' ⟨v, L, rfl, h3, h4, hb⟩
    rw [ED.bord_is ht h4] at h3
    exact ⟨v, rfl, R_toS52 h3, hb⟩
  · rw [if_neg h0]
    refine (ED.border17_no l0_0 l0_1 _ ht h0 A0_0 c0_0 A0_1 c0_1 w hr0_0 hc0_0 hr0_1 hc0_1 hG).mono ?_
    rintro e w' ⟨rfl, hb⟩
    exact ⟨_, rfl, Kd.R_nil _ _ _ _ _, hb⟩
noncomputable def mesh_Euler.f (l0_0 : List (S55)) (l0_1 : List (S36)) : Option (Int × Int) := some (if chk l0_0 l0_1 = 0 then (l0_0.length : Int) - (edgesOf l0_1).length + l0_1.length else 0, chk l0_0 l0_1)
theorem mesh_Euler.calls (A0_0 : Option Addr) (c0_0 : Nat) (l0_0 : List (S55)) (A0_1 : Option Addr) (c0_1 : Nat) (l0_1 : List (S36)) (r1 : Int) (r2 : Int) (w : World) (hr0_0 : Kd.C k55 w A0_0 l0_0.length l0_0) (hc0_0 : l0_0.length ≤ c0_0) (hr0_1 : Kd.C k36 w A0_1 l0_1.length l0_1) (hc0_1 : l0_1.length ≤ c0_1) (hG : Kd.C k36 w (some ⟨0, 0, none⟩) 1 [⟨1, 2, 0⟩]) (h : mesh_Euler.f l0_0 l0_1 = some (r1, r2)) :
    Calls Tryd.prog 20 #[.agg #[.slice A0_0 l0_0.length c0_0, .slice A0_1 l0_1.length c0_1]] w fun e w' => e = .returned (.tuple #[.int .i64 r1, .int .i64 r2]) ∧ Below w.heap.size w w' := by
  unfold mesh_Euler.f at h
  injection h with h
  injection h with h1 h2
  subst h1
  subst h2
  exact ED.euler20 l0_0 l0_1 _ (chk_told l0_0 l0_1) A0_0 c0_0 A0_1 c0_1 w hr0_0 hc0_0 hr0_1 hc0_1 hG
end Go.Proofs.YtckemiefcdpofaaDoor.PMsr
