import Derived.Test.YtomknjmgcbbjlaaDoorProg
import Derived.Below
import Derived.OwnWalk
import Derived.Laws.OwnMore
import Derived.Laws.Rows
import Derived.Deep.Draws
import Derived.Deep.OwnRows
import Derived.Tactics
import Derived.Laws.Slices
import Derived.WalkKit
import Derived.KernelRfl
import Derived.RowKit3
import Derived.RegionTactic
import Derived.Deep.LoopGhost
import Derived.Deep.QuietTactic
import Derived.BigQuiet
import Derived.BigRegion
import Derived.WideLaws
import Derived.Deep.DeepCutAuto
import Derived.Deep.CutBlock
import Derived.Deep.RegionHeld3
import Derived.Lib.Hide
import Derived.Outline
import Derived.WalkMore
import Derived.LoopTactic
import Derived.WalkSpells
import Derived.OneCell
import Derived.StillTailTactics
namespace Go.Proofs.YtomknjmgcbbjlaaDoor.Mem
open Go Go.RowKit
set_option linter.unusedVariables false
def Blk (w : World) (g : Nat) (t : TypeId) (cs : Array Value) : Prop := w.heap[g]? = some (.cells cs t (0, 0))
section
variable {w w' : World} {g : Nat} {t : TypeId} {cs : Array Value}
theorem Blk.lt (h : Blk w g t cs) : g < w.heap.size := by
  rcases Nat.lt_or_ge g w.heap.size with hlt | hge
  · exact hlt
  · unfold Blk at h; rw [Array.getElem?_eq_none hge] at h; cases h
theorem Blk.cell (h : Blk w g t cs) (i : Nat) : w.cell? ⟨g, i, none⟩ = cs[i]? := cell_of_row w g i cs t (0, 0) h
theorem Blk.frozen (h : Blk w g t cs) (i : Nat) : w.frozen? ⟨g, i, none⟩ = false := by
  unfold Blk at h
  simp [World.frozen?, h]
theorem Blk.set_ (h : Blk w g t cs) (i : Nat) (u : Value) : Blk (w.setCell ⟨g, i, none⟩ u) g t (cs.setIfInBounds i u) := by
  unfold Blk at h ⊢
  simp [World.setCell, Array.getElem?_modify, h]
theorem Blk.far (h : Blk w g t cs) {p : Addr} (hp : g ≠ p.block) (u : Value) : Blk (w.setCell p u) g t cs := (Below.heap_setCell w p u g hp).trans h
theorem Blk.ne_ {g' : Nat} {t' : TypeId} {cs' : Array Value} (h : Blk w g t cs) (h' : Blk w g' t' cs') (hne : t ≠ t') : g ≠ g' := by
  rintro rfl
  unfold Blk at h h'
  rw [h] at h'
  injection h' with h'
  injection h' with _ ht
  exact hne ht
end
theorem noGoto_body {P : Program} {fn : Func} {R : Ending → World → Prop} : Exit.noGoto (bodyPost P fn R) = bodyPost P fn R := by
  funext e a w
  cases e <;> rfl
theorem scope_body {P : Program} {fn : Func} {R : Ending → World → Prop} {c : Code} {a : Act} {w : World} (h : c.wp P (bodyPost P fn R) a w) : (Code.scope c).wp P (bodyPost P fn R) a w :=
  wp_scope_straight (by rw [noGoto_body]; exact h)
structure Only (w w' : World) (bp bs : Nat) : Prop where
  os : w'.os = w.os
  tape : w'.tape = w.tape
  output : w'.output = w.output
  size : w.heap.size ≤ w'.heap.size
  block : ∀ k, k < w.heap.size → k ≠ bp → k ≠ bs → w'.heap[k]? = w.heap[k]?
theorem Only.refl (w : World) (bp bs : Nat) : Only w w bp bs := ⟨rfl, rfl, rfl, Nat.le_refl _, fun _ _ _ _ => rfl⟩
theorem Only.trans {a b c : World} {bp bs : Nat} (h : Only a b bp bs) (k : Only b c bp bs) : Only a c bp bs :=
  ⟨k.os.trans h.os, k.tape.trans h.tape, k.output.trans h.output, Nat.le_trans h.size k.size, fun i hi h1 h2 => (k.block i (Nat.lt_of_lt_of_le hi h.size) h1 h2).trans (h.block i hi h1 h2)⟩
theorem Only.drew {a b : World} {bp bs : Nat} (h : Only a b bp bs) : Only a b.drew bp bs := ⟨h.os, h.tape, h.output, h.size, h.block⟩
theorem Only.drewN {a b : World} {bp bs : Nat} (h : Only a b bp bs) (n : Nat) : Only a (b.drewN n) bp bs := ⟨h.os, h.tape, h.output, h.size, h.block⟩
theorem Only.setCell {a b : World} {bp bs : Nat} (h : Only a b bp bs) {p : Addr} (hp : p.block = bp ∨ p.block = bs) (u : Value) : Only a (b.setCell p u) bp bs :=
  ⟨h.os, h.tape, h.output, by simpa [World.setCell] using h.size, fun i hi h1 h2 => (Below.heap_setCell b p u i (by rintro rfl; rcases hp with hp | hp <;> contradiction)).trans (h.block i hi h1 h2)⟩
theorem Only.alloc {a b : World} {bp bs : Nat} (h : Only a b bp bs) (o : Obj) : Only a (b.alloc o) bp bs :=
  ⟨h.os, h.tape, h.output, Nat.le_trans h.size (by simp), fun i hi h1 h2 => (Below.heap_alloc b o i (Nat.lt_of_lt_of_le hi h.size)).trans (h.block i hi h1 h2)⟩
theorem Only.below {a b : World} {bp bs B : Nat} (h : Only a b bp bs) (h1 : B ≤ bp) (h2 : B ≤ bs) (hB : B ≤ a.heap.size) : Below B a b :=
  ⟨h.os, h.tape, h.output, h.size, fun k hk => h.block k (by omega) (by omega) (by omega)⟩
theorem Blk.only {w w' : World} {g bp bs : Nat} {t : TypeId} {cs : Array Value} (h : Blk w g t cs) (ho : Only w w' bp bs) (h1 : g ≠ bp) (h2 : g ≠ bs) : Blk w' g t cs := (ho.block g h.lt h1 h2).trans h
theorem Blk.below {w w' : World} {g : Nat} {t : TypeId} {cs : Array Value} (h : Blk w g t cs) (hb : Below w.heap.size w w') : Blk w' g t cs := (hb.block g h.lt).trans h
theorem Blk.drewN {w : World} {g : Nat} {t : TypeId} {cs : Array Value} (h : Blk w g t cs) (n : Nat) : Blk (w.drewN n) g t cs := h
theorem Blk.drew {w : World} {g : Nat} {t : TypeId} {cs : Array Value} (h : Blk w g t cs) : Blk w.drew g t cs := h
theorem Blk.alloc {w : World} {g : Nat} {t : TypeId} {cs : Array Value} (h : Blk w g t cs) (o : Obj) : Blk (w.alloc o) g t cs := (Below.heap_alloc w o g h.lt).trans h
theorem Blk.here (w : World) (t : TypeId) (cs : Array Value) : Blk (w.alloc (.cells cs t (0, 0))) w.heap.size t cs := by
  show (w.heap.push _)[w.heap.size]? = _
  rw [Array.getElem?_push_size]
theorem Blk.grown {w w' : World} {g : Nat} {t : TypeId} {cs : Array Value} (h : Blk w g t cs) {row : Option Nat} (hg : w.grownBy w' row) (h1 : some g ≠ row) : Blk w' g t cs := (hg.block g h.lt h1).trans h
end Go.Proofs.YtomknjmgcbbjlaaDoor.Mem
