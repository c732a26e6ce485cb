/- Any symbols, of any models, have the bytes that the document's answer has, or none, with the same error. -/
import Derived.Test.YthegimfokcdehaaPCodx20
import Derived.Test.YthegimfokcdehaaCoderLaws3
import Derived.Test.YthegimfokcdehaaOpens2
import Derived.OpenShut
namespace Go.Proofs.Ythegimfokcdehaa.Pure
open Go Go.RowKit Go.ChangeShapes Go.WideShapes Go.Proofs.Ythegimfokcdehaa.CM Go.Proofs.Ythegimfokcdehaa.CW Go.Proofs.Ythegimfokcdehaa.CL Go.Proofs.Ythegimfokcdehaa.PCod Go.Proofs.YthegimfokcdehaaW.PrintWords Go.Proofs.YthegimfokcdehaaW.PrintLast
set_option linter.unusedVariables false
set_option linter.unusedSimpArgs false
theorem writes_j (l0 : List Int) (l1 : List S41) : Ev (fun k => lapidarylaw06_CoderWrites.j0 k l0 l1 true) true := by
  refine Ev.step (f := fun k => (lapidarylaw06_known.f k).bind fun t => some t) (fun k => ?_) (Ev.bind known_ev (Ev.now _))
  simp only [lapidarylaw06_CoderWrites.j0, if_true]
theorem writes_ev (l0 : List Int) (l1 : List S41) (h0 : i64s l0) (h1 : ∀ x ∈ l1, wfC x) : Ev (fun k => lapidarylaw06_CoderWrites.f k l0 l1) true := by
  unfold lapidarylaw06_CoderWrites.f
  by_cases h20 : (l0.length : Int) > 20
  · simp only [if_pos h20]
    exact writes_j l0 l1
  · simp only [if_neg h20]
    by_cases h150 : (l1.length : Int) > 150
    · simp only [decide_eq_true h150]
      exact writes_j l0 l1
    · simp only [decide_eq_false h150]
      refine Ev.step (f := fun k => (lapidarylaw06_known.f k).bind fun t => some t) (fun k => ?_) (Ev.bind known_ev (Ev.now _))
      simp only [lapidarylaw06_CoderWrites.j0]
      rw [if_neg (by decide), enc_f (by omega) (by omega) h0 h1, Option.bind_some, renc_f (by omega) (by omega) h1, Option.bind_some, same_self (encS_dig _ _), Option.bind_some, if_pos rfl, if_pos rfl]
def Rgood41 (p : S41) : Prop := (Lit.int .i64 p.f0).wf = true ∧ (Lit.int .i64 p.f1).wf = true
section
variable {H : Type} {enc : TypeId × Value → H} {W : World} {base : Nat} {spare : Nat → Bool} {held : Bool}
theorem Rop41 : Opens.Op enc Try.prog W base spare held 41 k41 Rgood41 := by
  intro fuel cs x h hw
  obtain ⟨⟨a, b⟩, hK, hg⟩ := Opens.op_struct2 Try.underlying41 (by kernel_rfl) rfl rfl (by kernel_rfl) (by kernel_rfl) (Opens.op_int (k := .i64) Try.underlying3) (Opens.op_int (k := .i64) Try.underlying3) fuel cs x h hw
  exact ⟨⟨a, b⟩, hK, hg⟩
end
theorem good_wf {l : List S41} (h : ∀ z ∈ l, Rgood41 z) : ∀ x ∈ l, wfC x := fun x hx => by
  obtain ⟨h1, h2⟩ := h x hx
  have a := bounds_i64 h1
  have b := bounds_i64 h2
  exact ⟨by omega, by omega, by omega, by omega⟩
theorem CoderWrites (W : World) (A0 : Option Addr) (l0 : List Int) (c0 : Nat) (hr0 : Kd.C (Kd.int .i64) W A0 l0.length l0) (hc0 : l0.length ≤ c0) (hg0 : l0.length * Try.prog.bytesOf 3 ≤ reachBytes ∧ ∀ z ∈ l0, (Lit.int .i64 z).wf = true) (A1 : Option Addr) (l1 : List S41) (c1 : Nat) (hr1 : Kd.C k41 W A1 l1.length l1) (hc1 : l1.length ≤ c1) (hg1 : l1.length * Try.prog.bytesOf 41 ≤ reachBytes ∧ ∀ z ∈ l1, Rgood41 z) :
    Calls Try.prog 3 #[.slice A0 l0.length c0, .slice A1 l1.length c1] W fun e W' => e = .returned (.bool true) ∧ Below W.heap.size W W' := by
  obtain ⟨k, hk⟩ := (writes_ev l0 l1 (i64s_of hg0.2) (good_wf hg1.2)).rounds
  exact lapidarylaw06_CoderWrites.calls k A0 c0 l0 A1 c1 l1 true W hr0 hc0 hr1 hc1 hk
end Go.Proofs.Ythegimfokcdehaa.Pure
