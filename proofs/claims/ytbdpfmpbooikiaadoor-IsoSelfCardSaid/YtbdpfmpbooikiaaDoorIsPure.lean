import Derived.Test.YtbdpfmpbooikiaaDoorIsLeast
import Derived.Test.YtbdpfmpbooikiaaDoorIsoRenP
namespace Go.Proofs.YtbdpfmpbooikiaaDoor.IT
open Go Go.RowKit Go.Maps Go.WideMaps Go.Proofs.YtbdpfmpbooikiaaDoor.PIsr Go.Proofs.YtbdpfmpbooikiaaDoorW.PrintWords Go.Proofs.YtbdpfmpbooikiaaDoorW.PrintLast Go.Proofs.YtbdpfmpbooikiaaDoorW.PrintMore
open Go.Proofs.YtbdpfmpbooikiaaDoor.MM (trT trs)
open Go.Proofs.YtbdpfmpbooikiaaDoor.MR (Plain Single edges_iff)
open Go.Proofs.YtbdpfmpbooikiaaDoor.IsoB (sub_len)
open Go.Proofs.YtbdpfmpbooikiaaDoor.IsoR (getD_at)
set_option linter.unusedVariables false
set_option linter.unusedSimpArgs false
theorem edges_rot (q : S57) (e : Int × Int) : e ∈ Fan.edges3 (trT (rot q)) ↔ e ∈ Fan.edges3 (trT q) := by
  obtain ⟨a, b⟩ := e
  rw [edges_iff, edges_iff]
  unfold rot
  dsimp only
  constructor <;> rintro (h | h | h)
  · exact .inr (.inl h)
  · exact .inr (.inr h)
  · exact .inl h
  · exact .inr (.inr h)
  · exact .inl h
  · exact .inr (.inl h)
theorem edges_least (q : S57) (e : Int × Int) : e ∈ Fan.edges3 (trT (least q)) ↔ e ∈ Fan.edges3 (trT q) := by
  unfold least
  split
  · split
    · rw [edges_rot, edges_rot]
    · rw [edges_rot]
  · exact Iff.rfl
theorem edge_here (q : S57) : (q.f0, q.f1) ∈ Fan.edges3 (trT q) := by rw [edges_iff]; exact .inl ⟨rfl, rfl⟩
theorem edges_same {p q : S57} (h : least q = least p) (e : Int × Int) : e ∈ Fan.edges3 (trT q) ↔ e ∈ Fan.edges3 (trT p) := by rw [← edges_least q, h, edges_least]
theorem trs_at {T : List S57} {i : Nat} (hi : i < T.length) : trs T i = trT T[i] := by unfold trs; rw [getD_at T i z57 hi]
theorem least_inj {T : List S57} (hs : Single T) {i j : Nat} (hi : i < T.length) (hj : j < T.length) (h : least T[i] = least T[j]) : i = j := by
  refine hs i hi j hj (T[i].f0, T[i].f1) ?_ ?_
  · rw [trs_at hi]; exact edge_here _
  · rw [trs_at hj, ← edges_same h]; exact edge_here _
end Go.Proofs.YtbdpfmpbooikiaaDoor.IT
