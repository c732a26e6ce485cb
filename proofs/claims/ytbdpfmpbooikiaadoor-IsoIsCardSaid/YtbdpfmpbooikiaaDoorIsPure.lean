import Derived.Test.YtbdpfmpbooikiaaDoorIsLeast
import Derived.Test.YtbdpfmpbooikiaaDoorIsoRenP
namespace Go.Proofs.YtbdpfmpbooikiaaDoor.IT
open Go Go.RowKit Go.Maps Go.WideMaps Go.Proofs.YtbdpfmpbooikiaaDoor.PIsr Go.Proofs.YtbdpfmpbooikiaaDoorW.PrintWords Go.Proofs.YtbdpfmpbooikiaaDoorW.PrintLast Go.Proofs.YtbdpfmpbooikiaaDoorW.PrintMore
open Go.Proofs.YtbdpfmpbooikiaaDoor.MM (trT trs)
open Go.Proofs.YtbdpfmpbooikiaaDoor.MR (Plain Single edges_iff)
open Go.Proofs.YtbdpfmpbooikiaaDoor.IsoB (sub_len)
open Go.Proofs.YtbdpfmpbooikiaaDoor.IsoR (getD_at)
set_option linter.unusedVariables false
set_option linter.unusedSimpArgs false
theorem sub_eq {α : Type} [DecidableEq α] {A B : List α} (hA : A.Nodup) (hl : B.length ≤ A.length) (h : ∀ x ∈ A, x ∈ B) : ∀ x ∈ B, x ∈ A := by
  intro x hx
  by_cases hn : x ∈ A
  · exact hn
  · have := sub_len (m := x :: A) (l := B) (List.nodup_cons.2 ⟨hn, hA⟩) (by
      intro y hy
      rcases List.mem_cons.1 hy with rfl | hy
      · exact hx
      · exact h y hy)
    rw [List.length_cons] at this
    omega
def sum3 (q : S57) : Int := q.f0 + q.f1 + q.f2
theorem sum_rot (q : S57) : sum3 (rot q) = sum3 q := by unfold sum3 rot; dsimp only; omega
theorem sum_least (q : S57) : sum3 (least q) = sum3 q := by
  unfold least
  split
  · split
    · rw [sum_rot, sum_rot]
    · rw [sum_rot]
  · rfl
theorem edges_rot (q : S57) (e : Int × Int) : e ∈ Fan.edges3 (trT (rot q)) ↔ e ∈ Fan.edges3 (trT q) := by
  obtain ⟨a, b⟩ := e
  rw [edges_iff, edges_iff]
  unfold rot
  dsimp only
  constructor <;> rintro (h | h | h)
  · exact .inr (.inl h)
  · exact .inr (.inr h)
  · exact .inl h
  · exact .inr (.inr h)
  · exact .inl h
  · exact .inr (.inl h)
theorem edges_least (q : S57) (e : Int × Int) : e ∈ Fan.edges3 (trT (least q)) ↔ e ∈ Fan.edges3 (trT q) := by
  unfold least
  split
  · split
    · rw [edges_rot, edges_rot]
    · rw [edges_rot]
  · exact Iff.rfl
def Three (q : S57) : Prop := q.f0 ≠ q.f1 ∧ q.f1 ≠ q.f2 ∧ q.f2 ≠ q.f0
theorem least_rot {q : S57} (h : Three q) : least (rot q) = least q := by
  obtain ⟨a, b, c⟩ := q
  obtain ⟨h1, h2, h3⟩ := h
  dsimp only at h1 h2 h3
  unfold least high rot
  dsimp only
  by_cases g1 : a > b <;> by_cases g2 : a > c <;> by_cases g3 : b > c
  all_goals first | omega | (simp [g1, g2, g3, show ¬ b > a by omega, show ¬ c > a by omega, show ¬ c > b by omega]; done) | (simp [g1, g2, g3, show b > a by omega, show ¬ c > a by omega, show ¬ c > b by omega]; done) | (simp [g1, g2, g3, show ¬ b > a by omega, show c > a by omega, show ¬ c > b by omega]; done) | (simp [g1, g2, g3, show ¬ b > a by omega, show ¬ c > a by omega, show c > b by omega]; done) | (simp [g1, g2, g3, show b > a by omega, show c > a by omega, show ¬ c > b by omega]; done) | (simp [g1, g2, g3, show b > a by omega, show ¬ c > a by omega, show c > b by omega]; done) | (simp [g1, g2, g3, show ¬ b > a by omega, show c > a by omega, show c > b by omega]; done) | (simp [g1, g2, g3, show b > a by omega, show c > a by omega, show c > b by omega]; done)
theorem least_of {p q : S57} (hp : Three p) (he : (q.f0, q.f1) ∈ Fan.edges3 (trT p)) (hs : sum3 p = sum3 q) : least q = least p := by
  rw [edges_iff] at he
  unfold sum3 at hs
  rcases he with ⟨h1, h2⟩ | ⟨h1, h2⟩ | ⟨h1, h2⟩
  · have : q = p := by cases p; cases q; dsimp only at *; simp only [S57.mk.injEq]; omega
    rw [this]
  · have : q = rot p := by unfold rot; cases p; cases q; dsimp only at *; simp only [S57.mk.injEq]; omega
    rw [this, least_rot hp]
  · have : q = rot (rot p) := by unfold rot; cases p; cases q; dsimp only at *; simp only [S57.mk.injEq]; omega
    rw [this, least_rot (by unfold Three rot; exact ⟨hp.2.1, hp.2.2, hp.1⟩), least_rot hp]
theorem edge_here (q : S57) : (q.f0, q.f1) ∈ Fan.edges3 (trT q) := by rw [edges_iff]; exact .inl ⟨rfl, rfl⟩
theorem edges_same {p q : S57} (h : least q = least p) (e : Int × Int) : e ∈ Fan.edges3 (trT q) ↔ e ∈ Fan.edges3 (trT p) := by rw [← edges_least q, h, edges_least]
theorem sum_same {p q : S57} (h : least q = least p) : sum3 p = sum3 q := by rw [← sum_least q, h, sum_least]
theorem trs_at {T : List S57} {i : Nat} (hi : i < T.length) : trs T i = trT T[i] := by unfold trs; rw [getD_at T i z57 hi]
theorem three_of {P : List S45} {T : List S57} (hp : Plain P T) {i : Nat} (hi : i < T.length) : Three T[i] := by
  have := (hp.2 i hi).2
  rw [getD_at T i z57 hi] at this
  exact this
theorem least_inj {T : List S57} (hs : Single T) {i j : Nat} (hi : i < T.length) (hj : j < T.length) (h : least T[i] = least T[j]) : i = j := by
  refine hs i hi j hj (T[i].f0, T[i].f1) ?_ ?_
  · rw [trs_at hi]; exact edge_here _
  · rw [trs_at hj, ← edges_same h]; exact edge_here _
theorem least_nodup {T : List S57} (hs : Single T) : (T.map least).Nodup := by
  rw [List.nodup_iff_pairwise_ne, List.pairwise_iff_getElem]
  intro i j hi hj hij he
  rw [List.length_map] at hi hj
  rw [List.getElem_map, List.getElem_map] at he
  have := least_inj hs hi hj he
  omega
theorem both_ways {R U : List S57} (hR : Single R) (hU : Single U) (hl : R.length = U.length) : (∀ u ∈ U, least u ∈ R.map least) ↔ ∀ r ∈ R, least r ∈ U.map least := by
  constructor
  · intro h r hr
    refine sub_eq (least_nodup hU) (by simp [hl]) (fun x hx => ?_) _ (List.mem_map.2 ⟨r, hr, rfl⟩)
    obtain ⟨u, hu, rfl⟩ := List.mem_map.1 hx
    exact h u hu
  · intro h u hu
    refine sub_eq (least_nodup hR) (by simp [hl]) (fun x hx => ?_) _ (List.mem_map.2 ⟨u, hu, rfl⟩)
    obtain ⟨r, hr, rfl⟩ := List.mem_map.1 hx
    exact h r hr
theorem one_tri {P : List S45} {U : List S57} (hp : Plain P U) (hs : Single U) (r : S57) (k : Int) (hk : MR.FromI U (r.f0, r.f1) 0 k) :
    (0 ≤ k ∧ sum3 (U.getD k.toNat z57) = sum3 r) ↔ least r ∈ U.map least := by
  rcases hk with ⟨rfl, h⟩ | ⟨m, rfl, _, hm, he, _⟩
  · refine ⟨fun h0 => absurd h0.1 (by decide), fun h0 => ?_⟩
    obtain ⟨u, hu, hl⟩ := List.mem_map.1 h0
    obtain ⟨j, hj, rfl⟩ := List.getElem_of_mem hu
    exact absurd (by rw [trs_at hj, edges_same hl]; exact edge_here r) (h j (Nat.zero_le _) hj)
  · rw [Int.toNat_natCast, getD_at U m z57 hm]
    rw [trs_at hm] at he
    refine ⟨fun h => List.mem_map.2 ⟨U[m], List.getElem_mem hm, (least_of (three_of hp hm) he h.2).symm⟩, fun h => ⟨by omega, ?_⟩⟩
    obtain ⟨u, hu, hl⟩ := List.mem_map.1 h
    obtain ⟨j, hj, rfl⟩ := List.getElem_of_mem hu
    have : j = m := hs j hj m hm (r.f0, r.f1) (by rw [trs_at hj, edges_same hl]; exact edge_here r) (by rw [trs_at hm]; exact he)
    subst this
    exact (sum_same hl).symm
end Go.Proofs.YtbdpfmpbooikiaaDoor.IT
