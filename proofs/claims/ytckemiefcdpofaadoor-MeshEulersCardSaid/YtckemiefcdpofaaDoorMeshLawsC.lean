import Derived.Test.YtckemiefcdpofaaDoorPMsrx20
import Derived.Test.YtckemiefcdpofaaDoorBorderStub
import Derived.Test.YtckemiefcdpofaaDoorLike
namespace Go.Proofs.YtckemiefcdpofaaDoor.ML
open Go Go.RowKit Go.Proofs.YtckemiefcdpofaaDoor.PMsr Go.Proofs.YtckemiefcdpofaaDoorW.PrintWords Go.Proofs.YtckemiefcdpofaaDoorW.PrintLast Go.Proofs.YtckemiefcdpofaaDoorW.PrintMore
open Go.Proofs.YtckemiefcdpofaaDoor.MR (EvB EvP rd57 w1 Plain Single)
open Go.Proofs.YtckemiefcdpofaaDoor.MM
open Go.Proofs.YtckemiefcdpofaaDoor.ED (edgesOf borderOf raw edU ed)
set_option linter.unusedVariables false
set_option linter.unusedSimpArgs false
def HasE (T : List S36) (x : Int × Int) : Prop := ∃ j, j < T.length ∧ x ∈ Fan.edges3 (trs T j)
theorem hasC (T : List S36) (a b : Int) (hT : T.length ≤ 1000000) : ∃ r, Ev (fun k => lapidaryref10_Has.f k T a b) r ∧ (0 ≤ r ↔ HasE T (a, b)) := by
  obtain ⟨r, h1, h2⟩ := MR.has_ev T a b hT
  refine ⟨r, h1, ?_⟩
  rcases h2 with ⟨h3, h4⟩ | ⟨m, h3, _, h5, h6, _⟩
  · exact ⟨fun h => by omega, fun ⟨j, hj, h⟩ => absurd h (h4 j (Nat.zero_le _) hj)⟩
  · exact ⟨fun _ => ⟨m, h5, h6⟩, fun _ => by omega⟩
theorem hasE_fst {T : List S36} {x : Int × Int} : x ∈ (edgesU T T.length).map (·.1) ↔ HasE T x := MC.mem_fst
theorem mem_get {T : List S36} {q : S36} : q ∈ T ↔ ∃ j, j < T.length ∧ T.getD j z36 = q := by
  rw [List.mem_iff_getElem]
  constructor
  · rintro ⟨j, hj, rfl⟩; exact ⟨j, hj, by rw [List.getD_eq_getElem?_getD, List.getElem?_eq_getElem hj]; rfl⟩
  · rintro ⟨j, hj, h⟩; exact ⟨j, hj, by rw [← h, List.getD_eq_getElem?_getD, List.getElem?_eq_getElem hj]; rfl⟩
theorem mem_edU {q : S36} {x : Int × Int} : x ∈ edU q ↔ ∃ a b, (a, b) ∈ Fan.edges3 (trT q) ∧ x = ed a b := by
  unfold edU
  simp only [List.mem_cons, List.not_mem_nil, or_false]
  constructor
  · rintro (rfl | rfl | rfl)
    · exact ⟨_, _, (MR.edges_iff q _ _).2 (.inl ⟨rfl, rfl⟩), rfl⟩
    · exact ⟨_, _, (MR.edges_iff q _ _).2 (.inr (.inl ⟨rfl, rfl⟩)), rfl⟩
    · exact ⟨_, _, (MR.edges_iff q _ _).2 (.inr (.inr ⟨rfl, rfl⟩)), rfl⟩
  · rintro ⟨a, b, h, rfl⟩
    rcases (MR.edges_iff q a b).1 h with ⟨rfl, rfl⟩ | ⟨rfl, rfl⟩ | ⟨rfl, rfl⟩
    · exact .inl rfl
    · exact .inr (.inl rfl)
    · exact .inr (.inr rfl)
theorem mem_raw {P : List S55} {T : List S36} (hp : Plain P T) {x : Int × Int} : x ∈ raw T ↔ x.1 < x.2 ∧ (HasE T x ∨ HasE T (x.2, x.1)) := by
  unfold raw
  rw [List.mem_flatMap]
  constructor
  · rintro ⟨q, hq, hx⟩
    obtain ⟨j, hj, rfl⟩ := mem_get.1 hq
    obtain ⟨a, b, h1, rfl⟩ := mem_edU.1 hx
    have hne : a ≠ b := LK.edge_ne (show Fan.plain3 (trs T j) from (hp.2 j hj).2) h1
    unfold ed
    rcases Int.lt_or_gt_of_ne hne with h | h
    · rw [Int.min_eq_left (by omega), Int.max_eq_right (by omega)]
      exact ⟨h, .inl ⟨j, hj, h1⟩⟩
    · rw [Int.min_eq_right (by omega), Int.max_eq_left (by omega)]
      exact ⟨h, .inr ⟨j, hj, h1⟩⟩
  · rintro ⟨h, ⟨j, hj, h1⟩ | ⟨j, hj, h1⟩⟩
    · refine ⟨_, mem_get.2 ⟨j, hj, rfl⟩, mem_edU.2 ⟨x.1, x.2, h1, ?_⟩⟩
      unfold ed
      rw [Int.min_eq_left (by omega), Int.max_eq_right (by omega)]
    · refine ⟨_, mem_get.2 ⟨j, hj, rfl⟩, mem_edU.2 ⟨x.2, x.1, h1, ?_⟩⟩
      unfold ed
      rw [Int.min_eq_right (by omega), Int.max_eq_left (by omega)]
theorem hasE_in {P : List S55} {T : List S36} (hp : Plain P T) {x : Int × Int} (h : HasE T x) : (0 ≤ x.1 ∧ x.1 < P.length) ∧ 0 ≤ x.2 ∧ x.2 < P.length := by
  obtain ⟨j, hj, h1⟩ := h
  have h2 := (LK.triOk_iff.1 (hp.2 j hj)).2
  have h3 := LK.edge_has (a := x.1) (b := x.2) h1
  exact ⟨h2 _ h3.1, h2 _ h3.2⟩
def Take (T : List S36) (b : Bool) (x : Int × Int) : Prop := if b = true then HasE T x ∧ ¬ HasE T (x.2, x.1) else x.1 < x.2 ∧ (HasE T x ∨ HasE T (x.2, x.1))
structure InvE (n : Nat) (T : List S36) (b : Bool) (i j : Nat) (L : List (Int × Int)) : Prop where
  up : EP.Up L
  mem : ∀ x, x ∈ L ↔ Take T b x ∧ (0 ≤ x.1 ∧ 0 ≤ x.2 ∧ x.2 < n) ∧ (x.1 < i ∨ (x.1 = i ∧ x.2 < j))
  len : L.length ≤ 40 * i + j
section
variable (P : List S55) (T : List S36) (b : Bool) (hP : P.length ≤ 40) (hT : T.length ≤ 60)
theorem inv_yes {n i j : Nat} {L : List (Int × Int)} (h : InvE n T b i j L) (hj : j < n) (hx : Take T b ((i : Int), (j : Int))) : InvE n T b i (j + 1) (L ++ [((i : Int), (j : Int))]) := by
  refine ⟨?_, fun x => ?_, by rw [List.length_append]; simp; have := h.len; omega⟩
  · unfold EP.Up
    rw [List.pairwise_append]
    refine ⟨h.up, List.pairwise_singleton .., fun y hy z hz => ?_⟩
    rw [List.mem_singleton] at hz
    subst hz
    have := ((h.mem y).1 hy).2.2
    unfold EP.lt
    dsimp only
    omega
  · rw [List.mem_append, List.mem_singleton, h.mem x]
    constructor
    · rintro (⟨h1, h2, h3⟩ | rfl)
      · exact ⟨h1, h2, by omega⟩
      · refine ⟨hx, ?_, ?_⟩ <;> (dsimp only; omega)
    · rintro ⟨h1, h2, h3⟩
      by_cases e : x.1 = i ∧ x.2 = j
      · exact .inr (Prod.ext e.1 e.2)
      · exact .inl ⟨h1, h2, by omega⟩
theorem inv_no {n i j : Nat} {L : List (Int × Int)} (h : InvE n T b i j L) (hj : j < n) (hx : ¬ Take T b ((i : Int), (j : Int))) : InvE n T b i (j + 1) L := by
  refine ⟨h.up, fun x => ?_, by have := h.len; omega⟩
  rw [h.mem x]
  constructor
  · rintro ⟨h1, h2, h3⟩; exact ⟨h1, h2, by omega⟩
  · rintro ⟨h1, h2, h3⟩
    refine ⟨h1, h2, ?_⟩
    by_cases e : x.1 = i ∧ x.2 = j
    · have : x = ((i : Int), (j : Int)) := Prod.ext e.1 e.2
      rw [this] at h1
      exact absurd h1 hx
    · omega
theorem inv_row {n i : Nat} {L : List (Int × Int)} (h : InvE n T b i n L) (hn : n ≤ 40) : InvE n T b (i + 1) 0 L := by
  refine ⟨h.up, fun x => ?_, by have := h.len; omega⟩
  rw [h.mem x]
  constructor
  · rintro ⟨h1, h2, h3⟩; exact ⟨h1, h2, by omega⟩
  · rintro ⟨h1, h2, h3⟩; exact ⟨h1, h2, by omega⟩
include hP hT in
theorem re1 {R : List S52 → Prop} (i : Nat) (hi : i < P.length) (hnext : ∀ L, InvE P.length T b (i + 1) 0 L → EvP (fun k => lapidaryref10_Edges.l0 k b (L.map toS52) ((i + 1 : Nat) : Int) P T) R) : ∀ d j : Nat, j + d = P.length → ∀ L, InvE P.length T b i j L → EvP (fun k => lapidaryref10_Edges.l1 k b (L.map toS52) (i : Int) (j : Int) P T) R := by
  intro d
  induction d with
  | zero =>
    intro j hj L h
    have e : j = P.length := by omega
    subst e
    exact EvP.step (fun k => by rw [lapidaryref10_Edges.l1, if_neg (by omega), w1 (by omega)]) (hnext L (inv_row T b h hP))
  | succ d ih =>
    intro j hj L h
    obtain ⟨r1, e1, i1⟩ := hasC T i j (by omega)
    obtain ⟨r2, e2, i2⟩ := hasC T j i (by omega)
    have hl := h.len
    have ihj := ih (j + 1) (by omega)
    have ihy : Take T b ((i : Int), (j : Int)) → EvP (fun k => lapidaryref10_Edges.l1 k b (L.map toS52 ++ [(⟨i, j⟩ : S52)]) (i : Int) ((j + 1 : Nat) : Int) P T) R := fun hx => by
      have := ihj _ (inv_yes T b h (by omega) hx)
      rw [List.map_append] at this
      exact this
    have ihn : ¬ Take T b ((i : Int), (j : Int)) → EvP (fun k => lapidaryref10_Edges.l1 k b (L.map toS52) (i : Int) ((j + 1 : Nat) : Int) P T) R := fun hx => ihj _ (inv_no T b h (by omega) hx)
    have key : EvP (fun k => (if b = true then (if r1 ≥ 0 then (if r2 ≥ 0 then (lapidaryref10_Edges.l1 k b (L.map toS52) i ((j + 1 : Nat) : Int) P T) else (if (L.map toS52).length < 8796093022208 then (lapidaryref10_Edges.l1 k b (L.map toS52 ++ [(⟨i, j⟩ : S52)]) i ((j + 1 : Nat) : Int) P T) else (none))) else (lapidaryref10_Edges.l1 k b (L.map toS52) i ((j + 1 : Nat) : Int) P T)) else (if (i : Int) < (j : Int) then (if r1 ≥ 0 then (if (L.map toS52).length < 8796093022208 then (lapidaryref10_Edges.l1 k b (L.map toS52 ++ [(⟨i, j⟩ : S52)]) i ((j + 1 : Nat) : Int) P T) else (none)) else (if r2 ≥ 0 then (if (L.map toS52).length < 8796093022208 then (lapidaryref10_Edges.l1 k b (L.map toS52 ++ [(⟨i, j⟩ : S52)]) i ((j + 1 : Nat) : Int) P T) else (none)) else (lapidaryref10_Edges.l1 k b (L.map toS52) i ((j + 1 : Nat) : Int) P T))) else (lapidaryref10_Edges.l1 k b (L.map toS52) i ((j + 1 : Nat) : Int) P T)))) R := by
      have hlen : (L.map toS52).length < 8796093022208 := by rw [List.length_map]; omega
      by_cases hb : b = true
      · refine EvP.congr (fun k => by rw [if_pos hb]) ?_
        have ht : Take T b ((i : Int), (j : Int)) ↔ HasE T ((i : Int), (j : Int)) ∧ ¬ HasE T ((j : Int), (i : Int)) := by unfold Take; rw [if_pos hb]
        by_cases g1 : r1 ≥ 0
        · by_cases g2 : r2 ≥ 0
          · exact EvP.congr (fun k => by rw [if_pos g1, if_pos g2]) (ihn fun hx => (ht.1 hx).2 (i2.1 g2))
          · exact EvP.congr (fun k => by rw [if_pos g1, if_neg g2, if_pos hlen]) (ihy (ht.2 ⟨i1.1 g1, fun h => g2 (i2.2 h)⟩))
        · exact EvP.congr (fun k => by rw [if_neg g1]) (ihn fun hx => g1 (i1.2 (ht.1 hx).1))
      · refine EvP.congr (fun k => by rw [if_neg hb]) ?_
        have ht : Take T b ((i : Int), (j : Int)) ↔ (i : Int) < j ∧ (HasE T ((i : Int), (j : Int)) ∨ HasE T ((j : Int), (i : Int))) := by unfold Take; rw [if_neg hb]
        by_cases g0 : (i : Int) < j
        · by_cases g1 : r1 ≥ 0
          · exact EvP.congr (fun k => by rw [if_pos g0, if_pos g1, if_pos hlen]) (ihy (ht.2 ⟨g0, .inl (i1.1 g1)⟩))
          · by_cases g2 : r2 ≥ 0
            · exact EvP.congr (fun k => by rw [if_pos g0, if_neg g1, if_pos g2, if_pos hlen]) (ihy (ht.2 ⟨g0, .inr (i2.1 g2)⟩))
            · exact EvP.congr (fun k => by rw [if_pos g0, if_neg g1, if_neg g2]) (ihn fun hx => (ht.1 hx).2.elim (fun h => g1 (i1.2 h)) fun h => g2 (i2.2 h))
        · exact EvP.congr (fun k => by rw [if_neg g0]) (ihn fun hx => g0 (ht.1 hx).1)
    obtain ⟨r, hr1, hr2⟩ := key
    refine ⟨r, Ev.step (fun k => ?_) (Ev.bind (f := fun k t197 => ((lapidaryref10_Has.f k T j i).bind fun t198 => (if b = true then (if t197 ≥ 0 then (if t198 ≥ 0 then (lapidaryref10_Edges.l1 k b (L.map toS52) i ((j + 1 : Nat) : Int) P T) else (if (L.map toS52).length < 8796093022208 then (lapidaryref10_Edges.l1 k b (L.map toS52 ++ [(⟨i, j⟩ : S52)]) i ((j + 1 : Nat) : Int) P T) else (none))) else (lapidaryref10_Edges.l1 k b (L.map toS52) i ((j + 1 : Nat) : Int) P T)) else (if (i : Int) < (j : Int) then (if t197 ≥ 0 then (if (L.map toS52).length < 8796093022208 then (lapidaryref10_Edges.l1 k b (L.map toS52 ++ [(⟨i, j⟩ : S52)]) i ((j + 1 : Nat) : Int) P T) else (none)) else (if t198 ≥ 0 then (if (L.map toS52).length < 8796093022208 then (lapidaryref10_Edges.l1 k b (L.map toS52 ++ [(⟨i, j⟩ : S52)]) i ((j + 1 : Nat) : Int) P T) else (none)) else (lapidaryref10_Edges.l1 k b (L.map toS52) i ((j + 1 : Nat) : Int) P T))) else (lapidaryref10_Edges.l1 k b (L.map toS52) i ((j + 1 : Nat) : Int) P T))))) e1 (Ev.bind (f := fun k t198 => (if b = true then (if r1 ≥ 0 then (if t198 ≥ 0 then (lapidaryref10_Edges.l1 k b (L.map toS52) i ((j + 1 : Nat) : Int) P T) else (if (L.map toS52).length < 8796093022208 then (lapidaryref10_Edges.l1 k b (L.map toS52 ++ [(⟨i, j⟩ : S52)]) i ((j + 1 : Nat) : Int) P T) else (none))) else (lapidaryref10_Edges.l1 k b (L.map toS52) i ((j + 1 : Nat) : Int) P T)) else (if (i : Int) < (j : Int) then (if r1 ≥ 0 then (if (L.map toS52).length < 8796093022208 then (lapidaryref10_Edges.l1 k b (L.map toS52 ++ [(⟨i, j⟩ : S52)]) i ((j + 1 : Nat) : Int) P T) else (none)) else (if t198 ≥ 0 then (if (L.map toS52).length < 8796093022208 then (lapidaryref10_Edges.l1 k b (L.map toS52 ++ [(⟨i, j⟩ : S52)]) i ((j + 1 : Nat) : Int) P T) else (none)) else (lapidaryref10_Edges.l1 k b (L.map toS52) i ((j + 1 : Nat) : Int) P T))) else (lapidaryref10_Edges.l1 k b (L.map toS52) i ((j + 1 : Nat) : Int) P T)))) e2 hr1)), hr2⟩
    rw [lapidaryref10_Edges.l1, if_pos (by omega), w1 (by omega)]
include hP hT in
theorem re0 : ∀ d i : Nat, i + d = P.length → ∀ L, InvE P.length T b i 0 L → EvP (fun k => lapidaryref10_Edges.l0 k b (L.map toS52) (i : Int) P T) (fun l => ∃ L, l = L.map toS52 ∧ EP.Up L ∧ ∀ x, x ∈ L ↔ Take T b x ∧ (0 ≤ x.1 ∧ x.1 < P.length) ∧ 0 ≤ x.2 ∧ x.2 < P.length) := by
  intro d
  induction d with
  | zero =>
    intro i hi L h
    refine EvP.step (g := fun _ => some (L.map toS52)) (fun k => by rw [lapidaryref10_Edges.l0, if_neg (by omega)]) (EvP.now ⟨L, rfl, h.up, fun x => ?_⟩)
    rw [h.mem x]
    constructor
    · rintro ⟨h1, h2, h3⟩; exact ⟨h1, by omega, by omega⟩
    · rintro ⟨h1, h2, h3⟩; exact ⟨h1, by omega, by omega⟩
  | succ d ih =>
    intro i hi L h
    exact EvP.step (fun k => by rw [lapidaryref10_Edges.l0, if_pos (by omega)]; rfl) (re1 P T b hP hT i (by omega) (fun L' h' => ih (i + 1) (by omega) L' h') P.length 0 (by omega) L h)
include hP hT in
theorem ref_edges : EvP (fun k => lapidaryref10_Edges.f k P T b) (fun l => ∃ L, l = L.map toS52 ∧ EP.Up L ∧ ∀ x, x ∈ L ↔ Take T b x ∧ (0 ≤ x.1 ∧ x.1 < P.length) ∧ 0 ≤ x.2 ∧ x.2 < P.length) :=
  re0 P T b hP hT P.length 0 (by omega) [] ⟨List.Pairwise.nil, fun x => by simp; omega, by simp⟩
end
theorem ref_edges_is {P : List S55} {T : List S36} (hP : P.length ≤ 40) (hT : T.length ≤ 60) (ht : MR.Told P T 0) : Ev (fun k => lapidaryref10_Edges.f k P T false) ((edgesOf T).map toS52) ∧ Ev (fun k => lapidaryref10_Edges.f k P T true) ((borderOf T).map toS52) := by
  obtain ⟨_, _, hp, hs⟩ := ED.told_ok ht
  constructor
  · obtain ⟨r, h1, L, rfl, h2, h3⟩ := ref_edges P T false hP hT
    rw [EP.edgesOf_eq h2 fun x => ?_]
    · exact h1
    · rw [h3, mem_raw hp]
      unfold Take
      rw [if_neg (by decide)]
      constructor
      · exact fun h => h.1
      · intro h
        refine ⟨h, ?_⟩
        rcases h.2 with h4 | h4
        · exact hasE_in hp h4
        · have := hasE_in hp h4
          exact ⟨this.2, this.1⟩
  · obtain ⟨r, h1, L, rfl, h2, h3⟩ := ref_edges P T true hP hT
    rw [EP.up_ext (ED.borderOf_up ht) h2 fun x => ?_]
    · exact h1
    · rw [ED.mem_borderOf, h3, hasE_fst, hasE_fst]
      unfold Take
      rw [if_pos rfl]
      exact ⟨fun h => ⟨h, hasE_in hp h.1⟩, fun h => h.1⟩
theorem same_edges0 (l : List S52) (hl : l.length ≤ 1000000) : ∀ d i : Nat, i + d = l.length → Ev (fun k => lapidaryref10_SameEdges.l0 k l l (i : Int)) true := by
  intro d
  induction d with
  | zero =>
    intro i hi
    exact Ev.step (f := fun _ => some true) (fun k => by rw [lapidaryref10_SameEdges.l0, if_neg (by omega)]) (Ev.now _)
  | succ d ih =>
    intro i hi
    exact Ev.step (f := fun k => lapidaryref10_SameEdges.l0 k l l ((i + 1 : Nat) : Int)) (fun k => by rw [lapidaryref10_SameEdges.l0, if_pos (by omega), if_pos (by omega), if_pos (by omega), if_neg (by simp), w1 (by omega)]) (ih (i + 1) (by omega))
theorem same_edges (l : List S52) (hl : l.length ≤ 1000000) : Ev (fun k => lapidaryref10_SameEdges.f k l l) true :=
  Ev.congr (fun k => by unfold lapidaryref10_SameEdges.f; rw [if_pos rfl]; rfl) (same_edges0 l hl l.length 0 (by omega))
theorem borderOf_len {P : List S55} {T : List S36} (ht : MR.Told P T 0) : (borderOf T).length ≤ 1000000 := by
  have h1 := ED.sub_len (l := (edgesU T T.length).map (·.1)) (EP.up_nodup (ED.borderOf_up ht)) fun x hx => (ED.mem_borderOf.1 hx).1
  rw [List.length_map, ED.edgesU_len] at h1
  have h2 := (ED.told_ok ht).2.1
  omega
theorem known_nowC : ((lapidarylaw10_known.f).bind fun t => some t) = some true := rfl
theorem meshEdges (P : List S55) (T : List S36) : ∃ k, lapidarylaw10_MeshEdges.f k P T = some true := by
  by_cases g1 : (P.length : Int) > 40
  · exact ⟨0, by unfold lapidarylaw10_MeshEdges.f lapidarylaw10_long.f; rw [if_pos g1, Option.bind_some, if_pos rfl]; exact known_nowC⟩
  by_cases g2 : (T.length : Int) > 60
  · exact ⟨0, by unfold lapidarylaw10_MeshEdges.f lapidarylaw10_long.f; rw [if_neg g1, Option.bind_some, decide_eq_true g2, if_pos rfl]; exact known_nowC⟩
  have hc := chk_ev P T
  have ht := chk_told P T
  have hE : mesh_Edges.f P T = some (if chk P T = 0 then (edgesOf T).map toS52 else [], chk P T) := rfl
  have hB : mesh_Border.f P T = some (if chk P T = 0 then (borderOf T).map toS52 else [], chk P T) := rfl
  generalize chk P T = c at *
  have hj : Ev (fun k => lapidarylaw10_MeshEdges.j0 k (if c = 0 then (edgesOf T).map toS52 else []) (if c = 0 then (borderOf T).map toS52 else []) c false P T) true := by
    by_cases h0 : c = 0
    · subst h0
      obtain ⟨e1, e2⟩ := ref_edges_is (by omega) (by omega) ht
      have s1 := same_edges ((edgesOf T).map toS52) (by rw [List.length_map]; have := ED.edgesOf_len T; omega)
      have s2 := same_edges ((borderOf T).map toS52) (by rw [List.length_map]; exact borderOf_len ht)
      rw [if_pos rfl, if_pos rfl]
      refine Ev.step (fun k => by rw [lapidarylaw10_MeshEdges.j0, if_neg (by decide), if_pos rfl]) ?_
      refine Ev.bind (f := fun k t221 => ((lapidaryref10_SameEdges.f k ((edgesOf T).map toS52) t221).bind fun t224 => (if t224 = true then ((lapidaryref10_Edges.f k P T true).bind fun t225 => ((lapidaryref10_SameEdges.f k ((borderOf T).map toS52) t225).bind fun t228 => (if t228 = true then ((lapidarylaw10_known.f).bind fun t229 => (some t229)) else (some false)))) else (some false)))) e1 ?_
      refine Ev.bind (f := fun k t224 => (if t224 = true then ((lapidaryref10_Edges.f k P T true).bind fun t225 => ((lapidaryref10_SameEdges.f k ((borderOf T).map toS52) t225).bind fun t228 => (if t228 = true then ((lapidarylaw10_known.f).bind fun t229 => (some t229)) else (some false)))) else (some false))) s1 ?_
      refine Ev.congr (fun k => if_pos rfl) ?_
      refine Ev.bind (f := fun k t225 => ((lapidaryref10_SameEdges.f k ((borderOf T).map toS52) t225).bind fun t228 => (if t228 = true then ((lapidarylaw10_known.f).bind fun t229 => (some t229)) else (some false)))) e2 ?_
      refine Ev.bind (f := fun k t228 => (if t228 = true then ((lapidarylaw10_known.f).bind fun t229 => (some t229)) else (some false))) s2 ?_
      exact Ev.congr (fun k => if_pos rfl) (Ev.now _)
    · rw [if_neg h0, if_neg h0]
      exact Ev.step (f := fun _ => some true) (fun k => by rw [lapidarylaw10_MeshEdges.j0, if_neg (by decide), if_neg h0, if_pos (by simp [wrap64])]; rfl) (Ev.now _)
  refine Ev.rounds (Ev.congr (fun k => ?_) (Ev.bind (f := fun k t219 => (if c = t219 then (lapidarylaw10_MeshEdges.j0 k (if c = 0 then (edgesOf T).map toS52 else []) (if c = 0 then (borderOf T).map toS52 else []) t219 (c != t219) P T) else (lapidarylaw10_MeshEdges.j0 k (if c = 0 then (edgesOf T).map toS52 else []) (if c = 0 then (borderOf T).map toS52 else []) t219 true P T))) hc (Ev.congr (fun k => by rw [if_pos rfl, bne_self_eq_false]) hj)))
  unfold lapidarylaw10_MeshEdges.f lapidarylaw10_long.f
  rw [if_neg g1, Option.bind_some, decide_eq_false g2, if_neg (by decide), hE, hB]
  rfl
end Go.Proofs.YtckemiefcdpofaaDoor.ML
