/- The arcs' laws: their arguments. -/
import Derived.Test.YtmfeokapjmpjfaaArcLaws
import Derived.Test.YtmfeokapjmpjfaaOpens
namespace Go.Proofs.Ytmfeokapjmpjfaa.ArcR
open Go Go.RowKit Go.ChangeShapes Go.WideShapes Go.Proofs.Ytmfeokapjmpjfaa.Opens Go.Proofs.Ytmfeokapjmpjfaa.VB Go.Proofs.Ytmfeokapjmpjfaa.PArc Go.Proofs.Ytmfeokapjmpjfaa.ArcW Go.Proofs.YtmfeokapjmpjfaaW.PrintWords Go.Proofs.YtmfeokapjmpjfaaW.PrintLast Go.Proofs.YtmfeokapjmpjfaaW.PrintMore
set_option linter.unusedVariables false

def Rgood48 (p : S48) : Prop := True
theorem Rop48 {H : Type} {enc : TypeId × Value → H} {W : World} {base : Nat} {spare : Nat → Bool} {held : Bool} : Opens.Op enc Try.prog W base spare held 48 k48 Rgood48 :=
  op_struct3i (k0 := .i64) (k1 := .i64) (k2 := .i64) Try.underlying48 (by kernel_rfl) rfl rfl rfl (by kernel_rfl) (by kernel_rfl) (by kernel_rfl) Try.underlying3 Try.underlying3 Try.underlying3
    (fun a b c _ _ _ => ⟨⟨a, b, c⟩, k48_mk _ _, trivial⟩)
def good44 (l : List S48) : Prop := l.length * Try.prog.bytesOf 48 ≤ reachBytes ∧ ∀ z ∈ l, Rgood48 z
theorem bytes48 : Try.prog.bytesOf 48 = 24 := by kernel_rfl
theorem bytes44 : Try.prog.bytesOf 44 = 24 := by kernel_rfl
theorem bytes5 : Try.prog.bytesOf 5 = 1 := by kernel_rfl
theorem reach : reachBytes ≤ 140737488351232 := by decide +kernel
theorem okL_good {l : List (List S48)} (h : l.length * Try.prog.bytesOf 44 ≤ reachBytes ∧ ∀ z ∈ l, z.length * Try.prog.bytesOf 48 ≤ reachBytes ∧ ∀ p ∈ z, Rgood48 p) : okL l := by
  have hr := reach
  rw [bytes44] at h
  refine ⟨by omega, fun a ha => ?_⟩
  have := (h.2 a ha).1
  rw [bytes48] at this
  omega
theorem bytes_of {b : List Int} (h : ∀ z ∈ b, (Lit.int .u8 z).wf = true) : ∀ c ∈ b, 0 ≤ c ∧ c < 256 := fun c hc => wf_u8 (h c hc)

end Go.Proofs.Ytmfeokapjmpjfaa.ArcR
