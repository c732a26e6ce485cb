/- Plain symbols of some bits are read as they were, however often they carry; their first byte is 0. -/
import Derived.Test.YthegimfokcdehaaPCodx10
import Derived.Test.YthegimfokcdehaaCoderLaws2
import Derived.OpenShut
namespace Go.Proofs.Ythegimfokcdehaa.Pure
open Go Go.RowKit Go.Proofs.Ythegimfokcdehaa.CM Go.Proofs.Ythegimfokcdehaa.CW Go.Proofs.Ythegimfokcdehaa.CL Go.Proofs.Ythegimfokcdehaa.PCod Go.Proofs.YthegimfokcdehaaW.PrintWords Go.Proofs.YthegimfokcdehaaW.PrintLast
set_option linter.unusedVariables false
set_option linter.unusedSimpArgs false
def sym (k x : Int) : S41 := ⟨-k, Int.tmod (x * 257) (shl .i64 1 k)⟩
theorem shl_bits {k : Int} (h0 : 1 ≤ k) (h1 : k ≤ 16) : shl .i64 1 k = CM.bits (-k) := by
  have : k = 1 ∨ k = 2 ∨ k = 3 ∨ k = 4 ∨ k = 5 ∨ k = 6 ∨ k = 7 ∨ k = 8 ∨ k = 9 ∨ k = 10 ∨ k = 11 ∨ k = 12 ∨ k = 13 ∨ k = 14 ∨ k = 15 ∨ k = 16 := by omega
  rcases this with rfl | rfl | rfl | rfl | rfl | rfl | rfl | rfl | rfl | rfl | rfl | rfl | rfl | rfl | rfl | rfl <;> decide
theorem sameC_l0 (a : List S41) (ha : a.length ≤ 1000) : ∀ (d i : Nat), a.length - i = d → i ≤ a.length → Ev (fun k => lapidaryref06_Same.l0 k a a (i : Int)) true := by
  intro d
  induction d with
  | zero =>
    intro i h hi
    refine Ev.step (f := fun _ => some true) (fun k => ?_) (Ev.now _)
    simp only [lapidaryref06_Same.l0]
    rw [if_neg (by omega)]
  | succ d ih =>
    intro i h hi
    refine Ev.step (fun k => ?_) (ih (i + 1) (by omega) (by omega))
    simp only [lapidaryref06_Same.l0]
    rw [if_pos (by omega), if_pos (by omega), if_pos (by omega), if_neg (by simp), w64' (x := (i : Int) + 1) (by omega) (by omega)]
    rfl
theorem sameC_refl (a : List S41) (ha : a.length ≤ 1000) : Ev (fun k => lapidaryref06_Same.f k a a) true := by
  unfold lapidaryref06_Same.f
  simp only [if_true]
  exact sameC_l0 a ha _ 0 rfl (by omega)
theorem carries_end (l : List Int) (k : Int) (hd : Dig l) (hl : l.length ≤ 200) (h0 : 1 ≤ k) (h1 : k ≤ 16) : ∃ u, encS [] (l.map (sym k)) = (digs u.L u.V, 0) ∧ decS [] (l.map fun _ => -k) (digs u.L u.V) = (l.map (sym k), 0) ∧ u.L ≤ 5 + 2 * l.length ∧ SInv u := by
  have hb := bits_bound (k := -k) (by omega) (by omega)
  obtain ⟨u, hu⟩ := run_total (pairs (l.map (sym k))) (st0 (freshC [])) (by
    intro x hx
    unfold pairs at hx
    rw [List.map_map] at hx
    obtain ⟨y, hy, rfl⟩ := List.mem_map.1 hx
    have := hd y hy
    refine .inl ⟨⟨by show -k < 0; omega, by show -16 ≤ -k; omega⟩, ?_, ?_⟩
    · show 0 ≤ Int.tmod (y * 257) (shl .i64 1 k)
      exact Int.tmod_nonneg _ (by omega)
    · show Int.tmod (y * 257) (shl .i64 1 k) < CM.bits (-k)
      rw [shl_bits h0 h1]
      exact Int.tmod_lt_of_pos _ (by omega))
  have hdec := dec_enc sizes0 hu
  have hf0 : (l.map (sym k)).map S41.f0 = l.map fun _ => -k := by rw [List.map_map]; rfl
  rw [hf0] at hdec
  have hL := run_len sizes0 hu
  rw [pairs_length, List.length_map] at hL
  exact ⟨u, enc_run sizes0 hu, hdec, hL, run_inv sizes0 hu⟩
theorem carries_l0 (l : List Int) (k : Int) (hd : Dig l) (hl : l.length ≤ 200) (h0 : 1 ≤ k) (h1 : k ≤ 16) : ∀ (d i : Nat), l.length - i = d → i ≤ l.length → Ev (fun j => lapidarylaw06_CoderCarries.l0 j l k ((l.take i).map (sym k)) ((l.take i).map fun _ => -k) (i : Int)) true := by
  have hb := bits_bound (k := -k) (by omega) (by omega)
  have hs := shl_bits h0 h1
  intro d
  induction d with
  | zero =>
    intro i h hi
    obtain rfl : i = l.length := by omega
    obtain ⟨u, hu1, hu2, hu3, hu4⟩ := carries_end l k hd hl h0 h1
    obtain ⟨hz1, hz2, hz3, hz4⟩ := first_zero hu4
    rw [List.take_length]
    have hwf : ∀ x ∈ l.map (sym k), wfC x := by
      intro x hx
      obtain ⟨y, hy, rfl⟩ := List.mem_map.1 hx
      have h2 : 0 ≤ Int.tmod (y * 257) (shl .i64 1 k) := Int.tmod_nonneg _ (by have := hd y hy; omega)
      have h3 : Int.tmod (y * 257) (shl .i64 1 k) < shl .i64 1 k := Int.tmod_lt_of_pos _ (by rw [hs]; omega)
      rw [hs] at h2 h3
      unfold wfC sym
      simp only
      rw [hs]
      omega
    refine Ev.step (f := fun j => (lapidaryref06_Same.f j (l.map (sym k)) (l.map (sym k))).bind fun t399 => if t399 = true then (lapidarylaw06_known.f j).bind fun t401 => some t401 else some false) (fun j => ?_) (Ev.bind (sameC_refl _ (by rw [List.length_map]; omega)) (by simp only [if_true]; exact Ev.bind known_ev (Ev.now _)))
    simp only [lapidarylaw06_CoderCarries.l0]
    rw [if_neg (by omega), enc_f (by decide) (by rw [List.length_map]; omega) i0 hwf, hu1, Option.bind_some, dec_f (by decide) (by rw [List.length_map]; omega) (by rw [digs_length]; omega) i0 (fun n hn => by obtain ⟨_, _, rfl⟩ := List.mem_map.1 hn; omega) (digs_dig _ _), hu2, Option.bind_some, if_pos rfl, if_pos rfl]
    have e1 : ((digs u.L u.V).length : Int) ≥ 5 := by rw [hz1]; omega
    have e2 : (0 : Int) < ((digs u.L u.V).length : Int) := by omega
    have e3 : rd (digs u.L u.V) 0 = 0 := by rw [hz4]; rfl
    simp only [if_pos e1, if_pos e2, if_pos e3]
  | succ d ih =>
    intro i h hi
    have hrd : rd l (i : Int) = l[i]'(by omega) := by unfold rd; rw [Int.toNat_natCast, List.getD_eq_getElem?_getD, List.getElem?_eq_getElem (by omega)]; rfl
    have hx := hd (l[i]'(by omega)) (List.getElem_mem _)
    refine Ev.step (fun j => ?_) (ih (i + 1) (by omega) (by omega))
    simp only [lapidarylaw06_CoderCarries.l0]
    rw [if_pos (by omega), if_pos (by omega), if_pos (by omega), if_neg (by rw [hs]; omega), if_pos (by rw [List.length_map, List.length_take]; omega), if_pos (by rw [List.length_map, List.length_take]; omega), hrd, w64' (x := l[i]'(by omega)) (by omega) (by omega), w64' (x := l[i]'(by omega) * 257) (by omega) (by omega), w64' (x := -k) (by omega) (by omega), w64' (x := (i : Int) + 1) (by omega) (by omega)]
    have e : l.take (i + 1) = l.take i ++ [l[i]'(by omega)] := List.take_succ_eq_append_getElem (by omega)
    rw [e, List.map_append, List.map_append]
    rfl
theorem CoderCarries : lapidarylaw06_CoderCarries.Pure := by
  intro l0 a1 _ _ hw ha
  have hd : Dig l0 := fun x hx => by have := bounds_u8 (hw x hx); omega
  have hab := bounds_u8 ha
  refine Ev.rounds ?_
  unfold lapidarylaw06_CoderCarries.f
  by_cases hbig : (l0.length : Int) > 200
  · simp only [if_pos hbig]
    exact Ev.bind known_ev (Ev.now _)
  · simp only [if_neg hbig]
    have hk : wrap64 (1 + wrap64 (Int.tmod a1 16)) = 1 + a1 % 16 := by
      rw [Int.tmod_eq_emod_of_nonneg hab.1, w64' (x := a1 % 16) (by omega) (by omega), w64' (by omega) (by omega)]
    rw [hk]
    exact carries_l0 l0 (1 + a1 % 16) hd (by omega) (by omega) (by omega) _ 0 rfl (by omega)
end Go.Proofs.Ythegimfokcdehaa.Pure
