/- Rows of rows, by what tells each: read as such, and back. -/
import Derived.Test.YthegimfokcdehaaCoderRef
namespace Go.Proofs.Ythegimfokcdehaa.CR
open Go Go.RowKit Go.Proofs.Ythegimfokcdehaa.PCod Go.Proofs.YthegimfokcdehaaW.PrintWords Go.Proofs.YthegimfokcdehaaW.PrintLast Go.Proofs.YthegimfokcdehaaW.PrintMore
set_option linter.unusedVariables false
set_option linter.unusedSimpArgs false
abbrev Hd := Option Addr × Nat × Nat
def encH (p : Hd) : Value := .slice p.1 p.2.1 p.2.2
abbrev kS : Kd Hd := Kd.scalar encH (fun _ => rfl)
abbrev hd0 : Hd := (none, 0, 0)
def RowAt (w : World) (h : Hd) (c : List Int) : Prop := h.2.1 = c.length ∧ c.length ≤ h.2.2 ∧ Kd.C (Kd.int .i64) w h.1 c.length c
def RowsOf (w : World) (hs : List Hd) (C : List (List Int)) : Prop := hs.length = C.length ∧ ∀ i, i < C.length → RowAt w (hs.getD i hd0) (C.getD i [])
theorem RowAt.below {w w' : World} {h : Hd} {c : List Int} (r : RowAt w h c) (hb : Below w.heap.size w w') : RowAt w' h c := ⟨r.1, r.2.1, Kd.C_below r.2.2 hb⟩
theorem RowsOf.below {w w' : World} {hs : List Hd} {C : List (List Int)} (r : RowsOf w hs C) (hb : Below w.heap.size w w') : RowsOf w' hs C := ⟨r.1, fun i hi => (r.2 i hi).below hb⟩
theorem RowsOf.set {w : World} {hs : List Hd} {C : List (List Int)} (r : RowsOf w hs C) (k : Nat) {h : Hd} {c : List Int} (hr : RowAt w h c) : RowsOf w (hs.set k h) (C.set k c) := by
  refine ⟨by rw [List.length_set, List.length_set]; exact r.1, fun i hi => ?_⟩
  rw [List.length_set] at hi
  have hl := r.1
  by_cases hik : k = i
  · subst hik
    rw [List.getD_eq_getElem?_getD, List.getD_eq_getElem?_getD, List.getElem?_set_self (by omega), List.getElem?_set_self hi]
    exact hr
  · rw [List.getD_eq_getElem?_getD, List.getD_eq_getElem?_getD, List.getElem?_set_ne hik, List.getElem?_set_ne hik, ← List.getD_eq_getElem?_getD, ← List.getD_eq_getElem?_getD]
    exact r.2 i hi
theorem rows_of {w : World} {A : Option Addr} {C : List (List Int)} (h : Kd.C (Kd.slice 3 (Kd.int .i64)) w A C.length C) : ∃ hs : List Hd, kS.C w A hs.length hs ∧ RowsOf w hs C := by
  obtain ⟨h1, h2, h3⟩ := h
  by_cases hn : 0 < C.length
  · obtain ⟨ad, rfl, hc⟩ := h3 hn
    have hf : ∀ j : Fin C.length, ∃ p : Hd, RowAt w p (C.getD j.1 []) ∧ w.cell? (ad.add j.1) = some (encH p) := by
      intro j
      obtain ⟨c, hl, ⟨A', c', e, hle, hC⟩, hcell⟩ := hc j.1 (C.getD j.1 []) (by rw [List.getD_eq_getElem?_getD, List.getElem?_eq_getElem j.2]; rfl)
      refine ⟨(A', (C.getD j.1 []).length, c'), ⟨rfl, hle, hC⟩, ?_⟩
      have := hcell 0 (.slice A' (C.getD j.1 []).length c') (by rw [e]; rfl)
      rw [show (Kd.slice 3 (Kd.int .i64)).sz = 1 from rfl, Nat.mul_one, Nat.add_zero] at this
      exact this
    have hch : ∃ f : Fin C.length → Hd, ∀ j : Fin C.length, RowAt w (f j) (C.getD j.1 []) ∧ w.cell? (ad.add j.1) = some (encH (f j)) := ⟨fun j => (hf j).choose, fun j => (hf j).choose_spec⟩
    obtain ⟨f, hf⟩ := hch
    refine ⟨List.ofFn f, ⟨rfl, by rw [List.length_ofFn]; exact h2, fun _ => ⟨ad, rfl, fun j p hj => ?_⟩⟩, ?_, fun i hi => ?_⟩
    · rw [List.getElem?_ofFn] at hj
      by_cases hjl : j < C.length
      · rw [dif_pos hjl] at hj
        injection hj with hj
        subst hj
        refine ⟨[encH (f ⟨j, hjl⟩)], rfl, rfl, fun i u hu => ?_⟩
        cases i with
        | zero =>
          injection hu with hu
          subst hu
          rw [show kS.sz = 1 from rfl, Nat.mul_one, Nat.add_zero]
          exact (hf ⟨j, hjl⟩).2
        | succ i => simp at hu
      · rw [dif_neg hjl] at hj; cases hj
    · rw [List.length_ofFn]
    · rw [List.getD_eq_getElem?_getD, List.getElem?_ofFn, dif_pos hi]
      exact (hf ⟨i, hi⟩).1
  · obtain rfl : C = [] := List.eq_nil_of_length_eq_zero (by omega)
    exact ⟨[], ⟨rfl, by simp, fun h => absurd h (Nat.lt_irrefl 0)⟩, rfl, fun i hi => absurd hi (Nat.not_lt_zero i)⟩
theorem of_rows {w : World} {A : Option Addr} {C : List (List Int)} {hs : List Hd} (h : kS.C w A hs.length hs) (r : RowsOf w hs C) : Kd.C (Kd.slice 3 (Kd.int .i64)) w A C.length C := by
  obtain ⟨h1, h2, h3⟩ := h
  have hl := r.1
  refine ⟨rfl, by omega, fun hn => ?_⟩
  obtain ⟨ad, rfl, hc⟩ := h3 (by omega)
  refine ⟨ad, rfl, fun j p hj => ?_⟩
  have hjl : j < C.length := by
    rcases Nat.lt_or_ge j C.length with h | h
    · exact h
    · rw [List.getElem?_eq_none h] at hj; cases hj
  have hp : C.getD j [] = p := by rw [List.getD_eq_getElem?_getD, hj]; rfl
  have hr := r.2 j hjl
  rw [hp] at hr
  obtain ⟨c, hcl, hce, hcell⟩ := hc j (hs.getD j hd0) (by rw [List.getD_eq_getElem?_getD, List.getElem?_eq_getElem (show j < hs.length by omega)]; rfl)
  change c = [encH (hs.getD j hd0)] at hce
  subst hce
  refine ⟨[encH (hs.getD j hd0)], rfl, ⟨(hs.getD j hd0).1, (hs.getD j hd0).2.2, ?_, hr.2.1, hr.2.2⟩, hcell⟩
  unfold encH
  rw [hr.1]
structure Agree (w : World) (G : Nat → Prop) (w' : World) : Prop where
  os : w'.os = w.os
  tape : w'.tape = w.tape
  output : w'.output = w.output
  size : w.heap.size ≤ w'.heap.size
  block : ∀ k, k < w.heap.size → ¬ G k → w'.heap[k]? = w.heap[k]?
def Keeps (w : World) (G : Nat → Prop) (P : World → Prop) : Prop := ∀ w'' : World, Agree w G w'' → P w''
theorem Agree.refl (w : World) (G : Nat → Prop) : Agree w G w := ⟨rfl, rfl, rfl, Nat.le_refl _, fun _ _ _ => rfl⟩
theorem Agree.setCell {w w' : World} {G : Nat → Prop} (h : Agree w G w') {g : Nat} (hg : G g ∨ w.heap.size ≤ g) (j : Nat) (v : Value) : Agree w G (w'.setCell ⟨g, j, none⟩ v) :=
  ⟨h.os, h.tape, h.output, by rw [show (w'.setCell ⟨g, j, none⟩ v).heap.size = w'.heap.size by simp]; exact h.size, fun k hk hk2 => (Below.heap_setCell w' ⟨g, j, none⟩ v k (by show k ≠ g; intro e; subst e; rcases hg with hg | hg; exact hk2 hg; omega)).trans (h.block k hk hk2)⟩
theorem Agree.trans {a b c : World} {G G' : Nat → Prop} (h : Agree a G b) (k : Agree b G' c) (hG : ∀ j, j < a.heap.size → G' j → G j) : Agree a G c :=
  ⟨k.os.trans h.os, k.tape.trans h.tape, k.output.trans h.output, Nat.le_trans h.size k.size, fun j hj hg => (k.block j (Nat.lt_of_lt_of_le hj h.size) (fun e => hg (hG j hj e))).trans (h.block j hj hg)⟩
theorem Agree.of_below {w w' : World} (G : Nat → Prop) {b : Nat} (hb : Below b w w') (hG : ∀ k, b ≤ k → k < w.heap.size → G k) : Agree w G w' := ⟨hb.os, hb.tape, hb.output, hb.size, fun k hk hg => hb.block k (Nat.lt_of_not_le fun e => hg (hG k e hk))⟩
theorem Keeps.now {w : World} {G : Nat → Prop} {P : World → Prop} (h : Keeps w G P) : P w := h w (Agree.refl w G)
theorem Keeps.agree {w w' : World} {G G' : Nat → Prop} {P : World → Prop} (h : Keeps w G P) (ha : Agree w G w') (hG : ∀ j, j < w.heap.size → G' j → G j) : Keeps w' G' P := fun w'' e => h w'' (ha.trans e hG)
theorem Keeps.below {w w' : World} {G : Nat → Prop} {P : World → Prop} (h : Keeps w G P) (hb : Below w.heap.size w w') : Keeps w' G P := h.agree (Agree.of_below G hb (fun _ h1 h2 => absurd h2 (by omega))) (fun _ _ h => h)
theorem Keeps.new {w : World} {P : World → Prop} {G : Nat → Prop} (h : ∀ w'', Below w.heap.size w w'' → P w'') (o : Obj) (hG : ∀ k, G k → w.heap.size ≤ k) : Keeps (w.alloc o) G P := fun w'' e => by
  have ha : Below w.heap.size w (w.alloc o) := Below.alloc (Below.refl _ _) (Nat.le_refl _) o
  exact h w'' ⟨e.os.trans ha.os, e.tape.trans ha.tape, e.output.trans ha.output, Nat.le_trans ha.size e.size, fun k hk => (e.block k (Nat.lt_of_lt_of_le hk ha.size) (fun hg => by have := hG k hg; omega)).trans (ha.block k hk)⟩
theorem keepR {α : Type} {d : Kd α} {e : Nat} {w : World} {base n c : Nat} {G : Nat → Prop} {ok : Nat → Prop} {A : Option Addr} {xs : List α} (h : d.R e w base ok (.slice A n c) xs) (hg : ∀ k, G k → k < base) : Keeps w G (fun w => d.C w A xs.length xs) :=
  fun w'' hw => (Kd.R_reads' (Kd.R_move (Kd.R_bound h) (fun k hk => hw.block k hk.2.2.1 (fun hG => by have := hk.2.1; have := hg k hG; omega)))).2.2
end Go.Proofs.Ythegimfokcdehaa.CR
