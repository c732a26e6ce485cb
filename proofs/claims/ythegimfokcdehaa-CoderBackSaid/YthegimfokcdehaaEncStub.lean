/- coder.Encode's and coder.Decode's contracts, in the print's form. -/
import Derived.Test.YthegimfokcdehaaCoderDec
namespace Go.Proofs.Ythegimfokcdehaa.PCod
open Go Go.RowKit Go.Proofs.Ythegimfokcdehaa.Mem Go.Proofs.Ythegimfokcdehaa.CM Go.Proofs.Ythegimfokcdehaa.CW Go.Proofs.YthegimfokcdehaaW.PrintWords Go.Proofs.YthegimfokcdehaaW.PrintLast Go.Proofs.YthegimfokcdehaaW.PrintMore
set_option linter.unusedVariables false
set_option linter.unusedSimpArgs false
def i64s (l : List Int) : Prop := ∀ n ∈ l, -9223372036854775808 ≤ n ∧ n < 9223372036854775808
instance (l : List Int) : Decidable (i64s l) := by unfold i64s; infer_instance
instance (x : S41) : Decidable (wfC x) := by unfold wfC; infer_instance
instance (l : List Int) : Decidable (Dig l) := by unfold Dig; infer_instance
def coder_Encode.f (l0 : List Int) (l1 : List S41) : Option (List Int × Int) := if l0.length ≤ 1000 ∧ l1.length ≤ 1000 ∧ i64s l0 ∧ (∀ x ∈ l1, wfC x) then some (encS l0 l1) else none
theorem coder_Encode.calls (A0 : Option Addr) (c0 : Nat) (l0 : List Int) (A1 : Option Addr) (c1 : Nat) (l1 : List S41) (r1 : List Int) (r2 : Int) (w : World) (hr0 : Kd.C (Kd.int .i64) w A0 l0.length l0) (hc0 : l0.length ≤ c0) (hr1 : Kd.C k41 w A1 l1.length l1) (hc1 : l1.length ≤ c1) (h : coder_Encode.f l0 l1 = some (r1, r2)) :
    Calls Try.prog 12 #[.slice A0 l0.length c0, .slice A1 l1.length c1] w fun e w' => ∃ v0_ : Value, e = .returned (.tuple #[v0_, .int .i64 r2]) ∧ Kd.R (Kd.int .u8) 5 w' w.heap.size (fun _ => True) v0_ r1 ∧ Below w.heap.size w w' := by
  unfold coder_Encode.f at h
  split at h
  · rename_i hc
    injection h with h
    have hw := enc12 w A0 A1 l0 l1 c0 c1 hr0 hr1 hc0 hc.1 hc.2.1 hc.2.2.1 hc.2.2.2
    rw [h] at hw
    exact hw
  · cases h
def coder_Decode.f (l0 l1 b : List Int) : Option (List S41 × Int) := if l0.length ≤ 1000 ∧ l1.length ≤ 1000 ∧ b.length ≤ 10000 ∧ i64s l0 ∧ i64s l1 ∧ Dig b then some (decS l0 l1 b) else none
theorem coder_Decode.calls (A0 : Option Addr) (c0 : Nat) (l0 : List Int) (A1 : Option Addr) (c1 : Nat) (l1 : List Int) (A2 : Option Addr) (c2 : Nat) (l2 : List Int) (r1 : List S41) (r2 : Int) (w : World) (hr0 : Kd.C (Kd.int .i64) w A0 l0.length l0) (hc0 : l0.length ≤ c0) (hr1 : Kd.C (Kd.int .i64) w A1 l1.length l1) (hc1 : l1.length ≤ c1) (hr2 : Kd.C (Kd.int .u8) w A2 l2.length l2) (hc2 : l2.length ≤ c2) (h : coder_Decode.f l0 l1 l2 = some (r1, r2)) :
    Calls Try.prog 15 #[.slice A0 l0.length c0, .slice A1 l1.length c1, .slice A2 l2.length c2] w fun e w' => ∃ v0_ : Value, e = .returned (.tuple #[v0_, .int .i64 r2]) ∧ Kd.R k41 41 w' w.heap.size (fun _ => True) v0_ r1 ∧ Below w.heap.size w w' := by
  unfold coder_Decode.f at h
  split at h
  · rename_i hc
    injection h with h
    have hw := dec15 w A0 A1 A2 l0 l1 l2 c0 c1 c2 hr0 hr1 hr2 hc2 hc.2.2.2.2.2 hc.1 hc.2.1 hc.2.2.1 hc.2.2.2.1 hc.2.2.2.2.1
    rw [h] at hw
    exact hw
  · cases h
end Go.Proofs.Ythegimfokcdehaa.PCod
