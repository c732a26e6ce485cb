import Derived.Test.YtomknjmgcbbjlaaDoorWTab
import Derived.Test.YtomknjmgcbbjlaaDoorWEqStruct
import Derived.Test.YtomknjmgcbbjlaaDoorWWords
import Derived.Test.YtomknjmgcbbjlaaDoorWN
namespace Go.Proofs.YtomknjmgcbbjlaaDoorW.PrintLast
def up (b : Nat → Bool) (i : Nat) : Nat → Bool := fun j => if j = i then true else b j
section
variable {P : Program} {ops : Array Oper} {Q : Exit → Act → World → Prop} {md : Region.Mode} {T : Bool × List (List Nat × List Nat)} {B : List Nat} {O : List Nat} {b : Nat → Bool} {i j n : Nat}
def Closed (T : List (List Nat × List Nat)) (O : List Nat) (b : Nat → Bool) : Prop := ∀ d r, T[d]? = some r → O.contains d = true → b d = true → ∀ n ∈ r.1, O.contains n = true → b n = true
end
end Go.Proofs.YtomknjmgcbbjlaaDoorW.PrintLast
namespace Go.Proofs.YtomknjmgcbbjlaaDoorW.PrintWords
open Go.RowKit
end Go.Proofs.YtomknjmgcbbjlaaDoorW.PrintWords
namespace Go.Proofs.YtomknjmgcbbjlaaDoorW.PrintLast
section
variable {ops : Array Oper} {a : Act} {o og : Oper} {g : Nat} {t : Tmp} {u : Bool}
end
end Go.Proofs.YtomknjmgcbbjlaaDoorW.PrintLast
namespace Go.Proofs.YtomknjmgcbbjlaaDoorW.PrintWords
open Go.RowKit
section
variable {P : Program} {ops : Array Oper} {rest : List Oper} {o : Oper} {a : Act} {Q : Exit → Act → World → Prop} {W : World}
theorem gate_guard (hw : Region.wanted o (yielded ops a.tmps) = true) (h : wpList P ops Q ({ o with guard := none } :: rest) a W) : wpList P ops Q (o :: rest) a W := by
  have h1 : Region.wanted { o with guard := none } (yielded ops a.tmps) = true := rfl
  unfold wpList at h ⊢
  rw [if_pos h1] at h
  rw [if_pos hw]
  exact h
end
end Go.Proofs.YtomknjmgcbbjlaaDoorW.PrintWords
namespace Go.Proofs.YtomknjmgcbbjlaaDoorW.PrintWords
open Go.RowKit
namespace Kd
section
variable {α : Type} {d : Kd α} {e base n cap g : Nat} {ok ok' okp : Nat → Prop} {w w1 W : World} {v v1 : Value} {xs ys : List α}
end
section
variable {P : Program} {ops : Array Oper} {rest : List Oper} {o : Oper} {a : Act} {Q : Exit → Act → World → Prop} {Kc : Act → World → Prop} {α : Type}
end
end Kd
end Go.Proofs.YtomknjmgcbbjlaaDoorW.PrintWords
