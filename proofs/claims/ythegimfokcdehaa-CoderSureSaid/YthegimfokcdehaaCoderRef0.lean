/- What the document's counts come to (printed functions). -/
import Derived.Test.YthegimfokcdehaaModelPure
import Derived.Test.YthegimfokcdehaaPCodx3
import Derived.Test.YthegimfokcdehaaPCodx4
import Derived.Test.YthegimfokcdehaaPCodx7b
import Derived.OpenShut
namespace Go.Proofs.Ythegimfokcdehaa.CR
open Go Go.RowKit Go.Proofs.Ythegimfokcdehaa.MW Go.Proofs.Ythegimfokcdehaa.PCod Go.Proofs.YthegimfokcdehaaW.PrintWords Go.Proofs.YthegimfokcdehaaW.PrintLast Go.Proofs.YthegimfokcdehaaW.PrintMore
set_option linter.unusedVariables false
set_option linter.unusedSimpArgs false
theorem w64 {x : Int} (h0 : -9223372036854775808 ≤ x) (h1 : x < 9223372036854775808) : wrap64 x = x := by unfold wrap64; omega
theorem rd_nat (xs : List Int) (i : Nat) : rd xs (i : Int) = xs.getD i 0 := by unfold rd; rw [Int.toNat_natCast]
theorem new_l0 (n : Nat) (hn : n ≤ 256) : ∀ (d i : Nat), n - i = d → i ≤ n → Ev (fun k => lapidaryref05_New.l0 k (n : Int) (List.replicate i 1) (i : Int)) (List.replicate n 1) := by
  intro d
  induction d with
  | zero =>
    intro i hd hi
    obtain rfl : i = n := by omega
    refine Ev.step (f := fun _ => some (List.replicate i 1)) (fun k => ?_) (Ev.now _)
    simp only [lapidaryref05_New.l0]
    rw [if_neg (by omega)]
  | succ d ih =>
    intro i hd hi
    refine Ev.step (fun k => ?_) (ih (i + 1) (by omega) (by omega))
    simp only [lapidaryref05_New.l0]
    rw [if_pos (by omega), if_pos (by rw [List.length_replicate]; omega), w64 (by omega) (by omega), ← List.replicate_succ']
    rfl
theorem rnew (n : Nat) (hn : n ≤ 256) : Ev (fun k => lapidaryref05_New.f k (n : Int)) (List.replicate n 1) := new_l0 n hn n 0 (by omega) (by omega)
theorem sum_l0 (cs : List Int) (hi : Inv cs) (s : Nat) (hs : s ≤ cs.length) : ∀ (d i : Nat), s - i = d → i ≤ s → Ev (fun k => lapidaryref05_Sum.l0 k cs (s : Int) (cs.take i).sum (i : Int)) (cs.take s).sum := by
  have hl := hi.2.2
  intro d
  induction d with
  | zero =>
    intro i hd hi'
    obtain rfl : i = s := by omega
    refine Ev.step (f := fun _ => some (cs.take i).sum) (fun k => ?_) (Ev.now _)
    simp only [lapidaryref05_Sum.l0]
    rw [if_neg (by omega)]
  | succ d ih =>
    intro i hd hi'
    obtain ⟨_, p2, p3, p4, p5⟩ := hi.part (k := i) (by omega)
    refine Ev.step (fun k => ?_) (ih (i + 1) (by omega) (by omega))
    simp only [lapidaryref05_Sum.l0]
    rw [if_pos (by omega), if_pos (by omega), if_pos (by omega), rd_nat, w64 (x := (cs.take i).sum + cs.getD i 0) (by omega) (by omega), ← p2, w64 (x := (i : Int) + 1) (by omega) (by omega)]
    rfl
theorem rsum (cs : List Int) (hi : Inv cs) (s : Nat) (hs : s ≤ cs.length) : Ev (fun k => lapidaryref05_Sum.f k cs (s : Int)) (cs.take s).sum := sum_l0 cs hi s hs s 0 (by omega) (by omega)
theorem count_l0 (cs : List Int) (hi : Inv cs) : ∀ (d i : Nat), cs.length - i = d → i ≤ cs.length → Ev (fun k => lapidaryref05_Count.l0 k ((cs.take i).map hf ++ cs.drop i) (i : Int)) (halfL cs) := by
  have hl := hi.2.2
  intro d
  induction d with
  | zero =>
    intro i hd hi'
    obtain rfl : i = cs.length := by omega
    rw [List.take_length, List.drop_length, List.append_nil]
    refine Ev.step (f := fun _ => some (halfL cs)) (fun k => ?_) (Ev.now _)
    simp only [lapidaryref05_Count.l0]
    rw [if_neg (by rw [List.length_map]; omega)]
    rfl
  | succ d ih =>
    intro i hd hi'
    obtain ⟨_, p2, p3, p4, p5⟩ := hi.part (k := i) (by omega)
    have hlen : ((cs.take i).map hf ++ cs.drop i).length = cs.length := by simp; omega
    have hset := half_set cs i (by omega)
    refine Ev.step (fun k => ?_) (ih (i + 1) (by omega) (by omega))
    simp only [lapidaryref05_Count.l0]
    rw [if_pos (by rw [hlen]; omega), if_pos (by omega), rd_nat, half_at cs i (by omega), w64 (x := cs.getD i 0 + 1) (by omega) (by omega), Int.tdiv_eq_ediv_of_nonneg (by omega), w64 (x := (cs.getD i 0 + 1) / 2) (by omega) (by omega), Int.toNat_natCast]
    have e : ((cs.take i).map hf ++ cs.drop i).set i ((cs.getD i 0 + 1) / 2) = (cs.take (i + 1)).map hf ++ cs.drop (i + 1) := hset
    rw [e, w64 (x := (i : Int) + 1) (by omega) (by omega)]
    rfl
theorem rcount {n : Nat} {cs : List Int} (h : Ok n cs) {s : Nat} (hs : s < n) : Ev (fun k => lapidaryref05_Count.f k cs (s : Int)) (cnt cs s) := by
  have hst := h.step hs
  have hinv := h.inv
  have hlen : cs.length = n := h.2.2.1
  have hn := h.2.2.2
  have hpart := hinv.part (k := s) (by omega)
  have hl0 : ([] : List Int).length + cs.length < 17592186044416 := by simp; omega
  have h0 : (0 : Int) ≤ (s : Int) := by omega
  have h1 : (s : Int) < (cs.length : Int) := by omega
  have hw : wrap64 (cs.getD s 0 + 32) = cs.getD s 0 + 32 := w64 (by omega) (by omega)
  have hlen2 : (cs.set s (cs.getD s 0 + 32)).length = cs.length := List.length_set
  have hsum := rsum (cs.set s (cs.getD s 0 + 32)) hst.2.1 cs.length (by omega)
  rw [List.take_of_length_le (by omega)] at hsum
  simp only [lapidaryref05_Count.f, if_pos hl0, List.nil_append, Option.bind_some, if_pos h0, if_pos h1, rd_nat, hw, Int.toNat_natCast]
  refine Ev.bind hsum ?_
  unfold cnt
  by_cases hb : (cs.set s (cs.getD s 0 + 32)).sum > 8192
  · simp only [if_pos hb]
    exact count_l0 _ hst.2.1 _ 0 rfl (by omega)
  · simp only [if_neg hb]
    exact Ev.now _
def shareS (cs : List Int) (s : Int) : Int × Int × Int := if s < 0 then (0, 0, 2) else if s ≥ (cs.length : Int) then (0, 0, 2) else ((cs.take s.toNat).sum, cs.getD s.toNat 0, 0)
theorem rshare {n : Nat} {cs : List Int} (h : Ok n cs) (s : Int) : Ev (fun k => lapidaryref05_Share.f k cs s) (shareS cs s) := by
  unfold shareS
  by_cases h1 : s < 0
  · simp only [lapidaryref05_Share.f, if_pos h1]; exact Ev.now _
  · by_cases h2 : s ≥ (cs.length : Int)
    · simp only [lapidaryref05_Share.f, if_neg h1, if_pos h2]; exact Ev.now _
    · obtain ⟨t, rfl⟩ := Int.eq_ofNat_of_zero_le (show 0 ≤ s by omega)
      have h3 : (0 : Int) ≤ (t : Int) := by omega
      have h4 : (t : Int) < (cs.length : Int) := by omega
      simp only [lapidaryref05_Share.f, if_neg h1, if_neg h2, if_pos h3, if_pos h4, rd_nat, Int.toNat_natCast]
      exact Ev.bind (rsum cs h.inv t (by omega)) (Ev.now _)
theorem find_l0 (cs : List Int) (hi : Inv cs) (v : Int) (hv : v < cs.sum) : ∀ (d i : Nat), cs.length - i = d → i ≤ cs.length → (cs.take i).sum ≤ v → Ev (fun k => lapidaryref05_Find.l0 k cs v (i : Int)) (findL (cs.drop i) i (v - (cs.take i).sum), 0) := by
  have hl := hi.2.2
  intro d
  induction d with
  | zero =>
    intro i hd hi' hle
    obtain rfl : i = cs.length := by omega
    rw [List.take_length] at hle
    omega
  | succ d ih =>
    intro i hd hi' hle
    obtain ⟨p1, p2, p3, p4, p5⟩ := hi.part (k := i) (by omega)
    have hw : wrap64 ((i : Int) + 1) = ((i + 1 : Nat) : Int) := w64 (by omega) (by omega)
    have hlt : (i : Int) < (cs.length : Int) := by omega
    rw [p1, findL]
    apply Ev.step (fun k => by rw [lapidaryref05_Find.l0])
    simp only [if_pos hlt]
    refine Ev.bind (rsum cs hi i (by omega)) ?_
    simp only [if_pos hle, hw]
    refine Ev.bind (rsum cs hi (i + 1) (by omega)) ?_
    rw [p2]
    by_cases h : v < (cs.take i).sum + cs.getD i 0
    · simp only [if_pos h]
      rw [if_pos (by omega)]
      exact Ev.now _
    · simp only [if_neg h]
      rw [if_neg (by omega)]
      have := ih (i + 1) (by omega) (by omega) (by omega)
      rw [p2, show v - ((cs.take i).sum + cs.getD i 0) = v - (cs.take i).sum - cs.getD i 0 by omega] at this
      exact this
theorem find_none (cs : List Int) (hi : Inv cs) (v : Int) (hv : v < 0 ∨ cs.sum ≤ v) : ∀ (d i : Nat), cs.length - i = d → i ≤ cs.length → Ev (fun k => lapidaryref05_Find.l0 k cs v (i : Int)) (0, 2) := by
  have hl := hi.2.2
  intro d
  induction d with
  | zero =>
    intro i hd hi'
    have hlt : ¬ (i : Int) < (cs.length : Int) := by omega
    refine Ev.step (f := fun _ => some (0, 2)) (fun k => ?_) (Ev.now _)
    simp only [lapidaryref05_Find.l0]
    rw [if_neg hlt]
  | succ d ih =>
    intro i hd hi'
    obtain ⟨p1, p2, p3, p4, p5⟩ := hi.part (k := i) (by omega)
    have hw : wrap64 ((i : Int) + 1) = ((i + 1 : Nat) : Int) := w64 (by omega) (by omega)
    have hlt : (i : Int) < (cs.length : Int) := by omega
    have hs : cs.sum = (cs.take (i + 1)).sum + (cs.drop (i + 1)).sum := by rw [← List.sum_append, List.take_append_drop]
    have hs2 := sum_nonneg (cs.drop (i + 1)) (fun c hc => hi.1 c (List.mem_of_mem_drop hc))
    apply Ev.step (fun k => by rw [lapidaryref05_Find.l0])
    simp only [if_pos hlt]
    refine Ev.bind (rsum cs hi i (by omega)) ?_
    by_cases h0 : v ≥ (cs.take i).sum
    · simp only [if_pos h0, hw]
      refine Ev.bind (rsum cs hi (i + 1) (by omega)) ?_
      have h : ¬ v < (cs.take (i + 1)).sum := by omega
      simp only [if_neg h]
      exact ih (i + 1) (by omega) (by omega)
    · simp only [if_neg h0, hw]
      exact ih (i + 1) (by omega) (by omega)
def findS (cs : List Int) (v : Int) : Int × Int := if v < 0 then (0, 2) else if cs.sum ≤ v then (0, 2) else (findL cs 0 v, 0)
theorem rfind {n : Nat} {cs : List Int} (h : Ok n cs) (v : Int) : Ev (fun k => lapidaryref05_Find.f k cs v) (findS cs v) := by
  unfold findS lapidaryref05_Find.f
  by_cases h1 : v < 0
  · rw [if_pos h1]; exact find_none cs h.inv v (.inl h1) _ 0 rfl (by omega)
  · rw [if_neg h1]
    by_cases h2 : cs.sum ≤ v
    · rw [if_pos h2]; exact find_none cs h.inv v (.inr h2) _ 0 rfl (by omega)
    · rw [if_neg h2]
      have := find_l0 cs h.inv v (by omega) _ 0 rfl (by omega) (by simp; omega)
      simpa using this
end Go.Proofs.Ythegimfokcdehaa.CR
