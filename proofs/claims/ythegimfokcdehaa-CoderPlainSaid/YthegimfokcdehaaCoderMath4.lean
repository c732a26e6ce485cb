/- The plain side of the coder: what the reader has come to, and that its choice is right. -/
import Derived.Test.YthegimfokcdehaaCoderMath3
namespace Go.Proofs.Ythegimfokcdehaa.CM
set_option linter.unusedVariables false
set_option linter.unusedSimpArgs false
/-- A byte; beyond the end 0. -/
def byteAt (b : List Int) (i : Nat) : Int := b.getD i 0
/-- The first bytes, as a number. -/
def pre (b : List Int) : Nat → Int
  | 0 => 0
  | i + 1 => pre b i * 256 + byteAt b i
theorem pre_take (b : List Int) : ∀ i, i ≤ b.length → pre b i = val (b.take i)
  | 0, _ => by rw [List.take_zero]; rfl
  | i + 1, h => by
    have : b.getD i 0 = b[i] := by rw [List.getD_eq_getElem?_getD, List.getElem?_eq_getElem (by omega)]; rfl
    rw [List.take_succ_eq_append_getElem (by omega), val_snoc, ← pre_take b i (by omega), pre, byteAt, this]
def code (b : List Int) (V : Int) (i : Nat) : Int := (pre b i - V) % 4294967296
theorem code_bound (b : List Int) (V : Int) (i : Nat) : 0 ≤ code b V i ∧ code b V i < 4294967296 := by unfold code; omega
theorem code_next (b : List Int) (V : Int) (i : Nat) (h0 : 0 ≤ byteAt b i) (h1 : byteAt b i < 256) : (code b V i * 256) % 4294967296 + byteAt b i = code b (V * 256) (i + 1) := by
  unfold code
  rw [pre]
  omega
theorem code_sub (b : List Int) (V d : Int) (i : Nat) : (code b V i - d) % 4294967296 = code b (V + d) i := by unfold code; omega
/-- The program's choice. -/
def gP (b : List Int) (t : St) (k : Int) : Option Int :=
  if b.length < t.L then none else some (findS t.C k (if whole t.C k - 1 < code b t.V t.L / (t.R / whole t.C k) then whole t.C k - 1 else code b t.V t.L / (t.R / whole t.C k)))
theorem gP_right (b : List Int) : Right b (gP b) := by
  intro t k s a n hI hL hsh h1 h2 h3 h4
  unfold gP
  have hr1 := hI.r1
  have hc : code b t.V t.L = val (b.take t.L) - t.V := by unfold code; rw [pre_take b _ hL]; omega
  obtain ⟨_, _, _, han, _⟩ := share_some hI.mods hsh
  rw [if_neg (by omega), hc, if_neg (by omega), find_share hI.mods hsh h3 h4]
end Go.Proofs.Ythegimfokcdehaa.CM
