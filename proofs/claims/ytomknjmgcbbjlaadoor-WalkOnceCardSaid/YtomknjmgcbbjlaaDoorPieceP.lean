import Derived.Test.YtomknjmgcbbjlaaDoorWalkC
namespace Go.Proofs.YtomknjmgcbbjlaaDoor.WP
open Go.Proofs.YtomknjmgcbbjlaaDoor.Fan Go.Proofs.YtomknjmgcbbjlaaDoor.LK
set_option linter.unusedVariables false
set_option linter.unusedSimpArgs false
set_option maxRecDepth 100000
section
variable {look : Int × Int → Option Nat} {tr : Nat → Tri} {n : Nat} {look' : Int × Int → Option Nat} {tr' : Nat → Tri} {n' : Nat} {In : Int → Prop} {ν : Int → Int} {σ : Nat → Nat}
def Linked (tr : Nat → Tri) (i j : Nat) : Prop := ∃ a b, (a, b) ∈ edges3 (tr i) ∧ (b, a) ∈ edges3 (tr j)
theorem Linked.symm {i j : Nat} (h : Linked tr i j) : Linked tr j i := by obtain ⟨a, b, h1, h2⟩ := h; exact ⟨b, a, h2, h1⟩
end
end Go.Proofs.YtomknjmgcbbjlaaDoor.WP
namespace Go.Proofs.YtomknjmgcbbjlaaDoor.WP
open Go.Proofs.YtomknjmgcbbjlaaDoor.Fan Go.Proofs.YtomknjmgcbbjlaaDoor.LK
set_option linter.unusedVariables false
set_option linter.unusedSimpArgs false
set_option maxRecDepth 100000
def Shutted (tr : Nat → Tri) (n : Nat) (S : Nat → Prop) : Prop := ∀ i j, i < n → j < n → S i → Linked tr i j → S j
def Con (tr : Nat → Tri) (n : Nat) (i j : Nat) : Prop := ∀ S : Nat → Prop, S i → Shutted tr n S → S j
section
variable {look : Int × Int → Option Nat} {tr : Nat → Tri} {n : Nat}
theorem Con.refl (i : Nat) : Con tr n i i := fun S h _ => h
theorem Con.trans {i j k : Nat} (h : Con tr n i j) (h2 : Con tr n j k) : Con tr n i k := fun S hs hc => h2 S (h S hs hc) hc
theorem Con.step {i j k : Nat} (h : Con tr n i j) (hj : j < n) (hk : k < n) (hl : Linked tr j k) : Con tr n i k := fun S hs hc => hc j k hj hk (h S hs hc) hl
theorem Con.lt {i j : Nat} (h : Con tr n i j) (hi : i < n) : j < n := h (fun k => k < n) hi fun _ _ _ h2 _ _ => h2
theorem Con.symm {i j : Nat} (h : Con tr n i j) : Con tr n j i := h (fun k => Con tr n k i) (Con.refl i) fun a b ha hb hab hl => (Con.step (Con.refl b) hb ha hl.symm).trans hab
end
end Go.Proofs.YtomknjmgcbbjlaaDoor.WP
