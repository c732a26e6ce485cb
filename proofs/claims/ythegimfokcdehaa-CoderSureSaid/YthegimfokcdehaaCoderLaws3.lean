/- What the laws need of both codings: lengths, bytes, the symbols of one model. -/
import Derived.Test.YthegimfokcdehaaCoderLaws2
import Derived.Test.YthegimfokcdehaaRefStub
namespace Go.Proofs.Ythegimfokcdehaa.CL
open Go Go.RowKit Go.Proofs.Ythegimfokcdehaa.CM Go.Proofs.Ythegimfokcdehaa.CW Go.Proofs.Ythegimfokcdehaa.PCod Go.Proofs.YthegimfokcdehaaW.PrintWords Go.Proofs.YthegimfokcdehaaW.PrintLast
set_option linter.unusedVariables false
set_option linter.unusedSimpArgs false
theorem renc_f {sizes : List Int} {l : List S41} (h0 : sizes.length ≤ 1000) (h1 : l.length ≤ 1000) (h3 : ∀ x ∈ l, wfC x) : lapidaryref06_Encode.f sizes l = some (encS sizes l) := by
  unfold lapidaryref06_Encode.f
  exact if_pos ⟨h0, h1, h3⟩
theorem rdec_f {sizes ms b : List Int} (h0 : sizes.length ≤ 1000) (h1 : ms.length ≤ 1000) (h2 : b.length ≤ 10000) (h4 : i64s ms) (h5 : Dig b) : lapidaryref06_Decode.f sizes ms b = some (decS sizes ms b) := by
  unfold lapidaryref06_Decode.f
  exact if_pos ⟨h0, h1, h2, h4, h5⟩
theorem encS_dig (sizes : List Int) (l : List S41) : Dig (encS sizes l).1 := by
  unfold encS
  split
  · split
    · exact .nil
    · exact digs_dig _ _
  · exact .nil
theorem sameC_l0 (a : List S41) (ha : a.length ≤ 1000) : ∀ (d i : Nat), a.length - i = d → i ≤ a.length → Ev (fun k => lapidaryref06_Same.l0 k a a (i : Int)) true := by
  intro d
  induction d with
  | zero =>
    intro i h hi
    refine Ev.step (f := fun _ => some true) (fun k => ?_) (Ev.now _)
    simp only [lapidaryref06_Same.l0]
    rw [if_neg (by omega)]
  | succ d ih =>
    intro i h hi
    refine Ev.step (fun k => ?_) (ih (i + 1) (by omega) (by omega))
    simp only [lapidaryref06_Same.l0]
    rw [if_pos (by omega), if_pos (by omega), if_pos (by omega), if_neg (by simp), w64' (x := (i : Int) + 1) (by omega) (by omega)]
    rfl
theorem sameC_ev (a : List S41) (ha : a.length ≤ 1000) : Ev (fun k => lapidaryref06_Same.f k a a) true := by
  unfold lapidaryref06_Same.f
  simp only [if_true]
  exact sameC_l0 a ha _ 0 rfl (by omega)
theorem same_self {a : List Int} (ha : Dig a) : lapidaryref00_Same.f a a = some true := by rw [same_ev ha ha]; simp
theorem i64s_of {l : List Int} (h : ∀ x ∈ l, (Lit.int .i64 x).wf = true) : i64s l := fun x hx => by have := bounds_i64 (h x hx); omega
theorem dig_of {l : List Int} (h : ∀ x ∈ l, (Lit.int .u8 x).wf = true) : Dig l := fun x hx => by have := bounds_u8 (h x hx); omega
theorem codes_back {ms : List Int} {b : List Int} {xs : List S41} {n : Nat} (hb : Dig b) (h : decS [256] (List.replicate n 0) b = (xs, 0)) : codes (xs.map fun x => x.f1 % 256) = xs ∧ Dig (xs.map fun x => x.f1 % 256) := by
  obtain ⟨_, u, hr, _, hf⟩ := dec_some hb h
  have hk : ∀ x ∈ xs, x.f0 = 0 ∧ 0 ≤ x.f1 ∧ x.f1 < 256 := by
    intro x hx
    have h0 : x.f0 = 0 := by
      have : x.f0 ∈ xs.map S41.f0 := List.mem_map.2 ⟨x, hx, rfl⟩
      rw [hf] at this
      exact List.eq_of_mem_replicate this
    obtain ⟨C, p, hl, hs⟩ := run_shares _ hr (x.f0, x.f1) (by unfold pairs; exact List.mem_map.2 ⟨x, hx, rfl⟩)
    have hC : C.map List.length = [256] := by rw [hl]; exact fresh_lens [256]
    obtain ⟨c, rfl⟩ : ∃ c, C = [c] := by
      have := congrArg List.length hC
      rw [List.length_map] at this
      exact List.length_eq_one_iff.1 this
    have hcl : c.length = 256 := by simpa using hC
    rw [h0] at hs
    have := share_at (C := [c]) (i := 0) (by simp) (s := x.f1)
    rw [show ((0 : Nat) : Int) = 0 from rfl] at this
    rw [this] at hs
    split at hs
    · rename_i hc
      refine ⟨h0, hc.1, ?_⟩
      have h2 := hc.2
      rw [show List.getD [c] 0 [] = c from rfl, hcl] at h2
      omega
    · cases hs
  constructor
  · unfold codes
    rw [List.map_map]
    have : ∀ x ∈ xs, ((fun x => (⟨0, x⟩ : S41)) ∘ fun x => x.f1 % 256) x = id x := fun x hx => by
      obtain ⟨h0, h1, h2⟩ := hk x hx
      show (⟨0, x.f1 % 256⟩ : S41) = x
      rw [Int.emod_eq_of_lt h1 h2, ← h0]
    rw [List.map_congr_left this, List.map_id]
  · intro y hy
    obtain ⟨x, hx, rfl⟩ := List.mem_map.1 hy
    exact ⟨by omega, by omega⟩
theorem sure_run : ∀ (n : Nat), n ≤ 500 → ∃ u, run (st0 (freshC [1])) (pairs (List.replicate n (⟨0, 0⟩ : S41))) = some u ∧ u.L = 5 ∧ 4294967295 - 8192 * (n : Int) ≤ u.R ∧ SInv u ∧ u.C.map List.length = [1]
  | 0, _ => ⟨st0 (freshC [1]), rfl, rfl, by show _ ≤ (4294967295 : Int); omega, st0_inv (fresh_mods (fun n hn => by rw [List.mem_singleton] at hn; subst hn; decide)), rfl⟩
  | n + 1, h => by
    obtain ⟨u, hr, hL, hR, hI, hC⟩ := sure_run n (by omega)
    obtain ⟨c, hc⟩ : ∃ c, u.C = [c] := by
      have := congrArg List.length hC
      rw [List.length_map] at this
      exact List.length_eq_one_iff.1 this
    have hcl : c.length = 1 := by rw [hc] at hC; simpa using hC
    obtain ⟨a, ha⟩ := List.length_eq_one_iff.1 hcl
    subst ha
    have hO := hI.mods [a] (by rw [hc]; exact List.mem_singleton.2 rfl)
    have ha1 : 1 ≤ a := hO.1.1 a (List.mem_singleton.2 rfl)
    have ha2 : a ≤ 8192 := by have := hO.1.2.1; simpa using this
    have hsh : share u.C 0 0 = some (0, a) := by
      rw [hc]
      have := share_at (C := [[a]]) (i := 0) (by simp) (s := 0)
      rw [show ((0 : Nat) : Int) = 0 from rfl] at this
      rw [this, if_pos ⟨Int.le_refl _, by simp⟩]
      rfl
    have hw : whole u.C 0 = a := by
      rw [hc]
      unfold whole
      rw [if_neg (by unfold isPlain; omega), if_pos ⟨Int.le_refl _, by simp⟩]
      show [a].sum = a
      simp
    obtain ⟨v, hv⟩ := step_of_share (x := (0, 0)) hsh
    have hR1 := hI.r1
    have hq : u.R - 8192 ≤ u.R / a * a := by
      have := Int.emod_add_mul_ediv u.R a
      have h2 := Int.emod_lt_of_pos u.R (show 0 < a by omega)
      rw [Int.mul_comm] at this
      omega
    have hm : many (u.R / a * a) = 0 := by unfold many; rw [if_neg (by omega), if_neg (by omega)]
    have hve : v = ⟨cntC u.C 0 0, u.R / a * a * pw 0, (u.V + u.R / a * 0) * pw 0, u.L + 0⟩ := by
      unfold CM.step at hv
      simp only [hsh, Option.map_some, hw, hm] at hv
      injection hv with hv
      exact hv.symm
    have hp : pairs (List.replicate (n + 1) (⟨0, 0⟩ : S41)) = pairs (List.replicate n (⟨0, 0⟩ : S41)) ++ [(0, 0)] := by
      unfold pairs
      rw [List.replicate_succ', List.map_append]
      rfl
    obtain ⟨_, _, hst⟩ := step_some hI hv
    refine ⟨v, by rw [hp, run_snoc, hr]; exact hv, ?_, ?_, hst.inv, ?_⟩
    · rw [hve]; exact hL
    · rw [hve, pw_zero]; simp only; omega
    · rw [hve]; simp only; rw [cntC_lens]; exact hC
end Go.Proofs.Ythegimfokcdehaa.CL
