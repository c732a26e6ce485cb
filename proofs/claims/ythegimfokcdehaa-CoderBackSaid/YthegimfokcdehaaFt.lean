/- A frame told by types: what lies below a block, and what is of none of these types, is as it was. -/
import Derived.Test.YthegimfokcdehaaMem
namespace Go.Proofs.Ythegimfokcdehaa.Mem
open Go Go.RowKit
set_option linter.unusedVariables false
structure Ft (B : Nat) (ts : List TypeId) (w w' : World) : Prop where
  os : w'.os = w.os
  tape : w'.tape = w.tape
  output : w'.output = w.output
  size : w.heap.size ≤ w'.heap.size
  keep : ∀ k, k < w.heap.size → (k < B ∨ ∃ cs t, Blk w k t cs ∧ t ∉ ts) → w'.heap[k]? = w.heap[k]?
section
variable {B : Nat} {ts : List TypeId} {a b c w w' : World}
theorem Ft.refl (B : Nat) (ts : List TypeId) (w : World) : Ft B ts w w := ⟨rfl, rfl, rfl, Nat.le_refl _, fun _ _ _ => rfl⟩
theorem Ft.blk (h : Ft B ts w w') {k : Nat} {t : TypeId} {cs : Array Value} (hb : Blk w k t cs) (ht : t ∉ ts) : Blk w' k t cs := (h.keep k hb.lt (.inr ⟨cs, t, hb, ht⟩)).trans hb
theorem Ft.trans (h : Ft B ts a b) (k : Ft B ts b c) : Ft B ts a c :=
  ⟨k.os.trans h.os, k.tape.trans h.tape, k.output.trans h.output, Nat.le_trans h.size k.size, fun i hi hc => by
    refine Eq.trans (k.keep i (Nat.lt_of_lt_of_le hi h.size) ?_) (h.keep i hi hc)
    rcases hc with hc | ⟨cs, t, hb, ht⟩
    · exact .inl hc
    · exact .inr ⟨cs, t, h.blk hb ht, ht⟩⟩
theorem Ft.mono {B' : Nat} {ts' : List TypeId} (h : Ft B ts w w') (hB : B' ≤ B) (hts : ∀ t ∈ ts, t ∈ ts') : Ft B' ts' w w' :=
  ⟨h.os, h.tape, h.output, h.size, fun i hi hc => h.keep i hi (by
    rcases hc with hc | ⟨cs, t, hb, ht⟩
    · exact .inl (by omega)
    · exact .inr ⟨cs, t, hb, fun hm => ht (hts t hm)⟩)⟩
theorem Ft.below_ (h : Ft B ts a b) (k : Below b.heap.size b c) : Ft B ts a c :=
  ⟨k.os.trans h.os, k.tape.trans h.tape, k.output.trans h.output, Nat.le_trans h.size k.size, fun i hi hc => (k.block i (Nat.lt_of_lt_of_le hi h.size)).trans (h.keep i hi hc)⟩
theorem Ft.of_below (B : Nat) (ts : List TypeId) (k : Below b.heap.size b c) : Ft B ts b c := (Ft.refl B ts b).below_ k
theorem Ft.below (h : Ft B ts w w') (hB : B ≤ w.heap.size) : Below B w w' := ⟨h.os, h.tape, h.output, h.size, fun k hk => h.keep k (by omega) (.inl hk)⟩
theorem Ft.drew (h : Ft B ts a b) : Ft B ts a b.drew := ⟨h.os, h.tape, h.output, h.size, h.keep⟩
theorem Ft.drewN (h : Ft B ts a b) (n : Nat) : Ft B ts a (b.drewN n) := ⟨h.os, h.tape, h.output, h.size, h.keep⟩
theorem Ft.alloc (h : Ft B ts a b) (o : Obj) : Ft B ts a (b.alloc o) :=
  ⟨h.os, h.tape, h.output, Nat.le_trans h.size (by simp), fun i hi hc => (Below.heap_alloc b o i (Nat.lt_of_lt_of_le hi h.size)).trans (h.keep i hi hc)⟩
theorem Blk.same {k : Nat} {t t' : TypeId} {cs cs' : Array Value} (h : Blk w k t cs) (h' : Blk w k t' cs') : t = t' := by
  unfold Blk at h h'
  rw [h] at h'
  injection h' with h'
  injection h'
theorem Ft.setCell (h : Ft B ts a b) {p : Addr} {t : TypeId} {cs : Array Value} (hb : Blk b p.block t cs) (ht : t ∈ ts) (hB : B ≤ p.block) (u : Value) : Ft B ts a (b.setCell p u) := by
  refine ⟨h.os, h.tape, h.output, by simpa [World.setCell] using h.size, fun i hi hc => Eq.trans (Below.heap_setCell b p u i ?_) (h.keep i hi hc)⟩
  rintro rfl
  rcases hc with hc | ⟨cs', t', hb', ht'⟩
  · omega
  · have := (h.blk hb' ht').same hb
    subst this
    exact ht' ht
theorem Ft.grown (h : Ft B ts a b) {row : Option Nat} (hg : b.grownBy c row) (hr : ∀ k, row = some k → B ≤ k ∧ ∃ cs t, Blk b k t cs ∧ t ∈ ts) : Ft B ts a c := by
  refine ⟨hg.os.trans h.os, hg.tape.trans h.tape, hg.output.trans h.output, Nat.le_trans h.size hg.size, fun i hi hc => Eq.trans (hg.block i (Nat.lt_of_lt_of_le hi h.size) ?_) (h.keep i hi hc)⟩
  intro e
  obtain ⟨h1, cs, t, hb, ht⟩ := hr i e.symm
  rcases hc with hc | ⟨cs', t', hb', ht'⟩
  · omega
  · have := (h.blk hb' ht').same hb
    subst this
    exact ht' ht
theorem own_row {base : Nat} {e : TypeId} {size n : Nat} {v : Value} {xs : List Value} (h : w.ownsRow base e size v n xs) : ∀ k, v.ownBlock = some k → base ≤ k ∧ ∃ cs, Blk w k e cs := by
  intro k hk
  rcases h.2 with ⟨rfl, _⟩ | ⟨g, cap, cur, rfl, hg, hh, r⟩
  · simp [Value.ownBlock] at hk
  · have : g = k := by simpa [Value.ownBlock] using hk
    subst this
    exact ⟨hg, cur, hh⟩
theorem Ft.own (h : Ft B ts w w') {base : Nat} {e : TypeId} {size n : Nat} {v : Value} {xs : List Value} (ho : w.ownsRow base e size v n xs) (ht : e ∉ ts) : w'.ownsRow base e size v n xs := by
  refine ⟨ho.1, ?_⟩
  rcases ho.2 with hn | ⟨g, cap, cur, rfl, hg, hh, r⟩
  · exact .inl hn
  · exact .inr ⟨g, cap, cur, rfl, hg, h.blk hh ht, r⟩
theorem Ft.only {bp bs : Nat} {t1 t2 : TypeId} {c1 c2 : Array Value} (h : Ft B ts a b) (ho : Only b c bp bs) (h1 : Blk b bp t1 c1) (h2 : Blk b bs t2 c2) (m1 : t1 ∈ ts) (m2 : t2 ∈ ts) (b1 : B ≤ bp) (b2 : B ≤ bs) : Ft B ts a c := by
  refine ⟨ho.os.trans h.os, ho.tape.trans h.tape, ho.output.trans h.output, Nat.le_trans h.size ho.size, fun i hi hc => Eq.trans (ho.block i (Nat.lt_of_lt_of_le hi h.size) ?_ ?_) (h.keep i hi hc)⟩
  · rintro rfl
    rcases hc with hc | ⟨cs', t', hb', ht'⟩
    · omega
    · have := (h.blk hb' ht').same h1
      subst this
      exact ht' m1
  · rintro rfl
    rcases hc with hc | ⟨cs', t', hb', ht'⟩
    · omega
    · have := (h.blk hb' ht').same h2
      subst this
      exact ht' m2
end
end Go.Proofs.Ythegimfokcdehaa.Mem
