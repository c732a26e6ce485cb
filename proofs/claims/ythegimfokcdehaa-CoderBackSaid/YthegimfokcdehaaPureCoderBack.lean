/- Symbols are read as they were; from bytes that are cut short, or have any behind, or of which anything is changed, not. -/
import Derived.Test.YthegimfokcdehaaPCodx7c
import Derived.Test.YthegimfokcdehaaPCodx25
import Derived.Test.YthegimfokcdehaaCoderBackP
import Derived.Test.YthegimfokcdehaaOpens2
import Derived.OpenShut
namespace Go.Proofs.Ythegimfokcdehaa.Pure
open Go Go.RowKit Go.ChangeShapes Go.WideShapes Go.Proofs.Ythegimfokcdehaa.Mem Go.Proofs.Ythegimfokcdehaa.CM Go.Proofs.Ythegimfokcdehaa.CW Go.Proofs.Ythegimfokcdehaa.CL Go.Proofs.Ythegimfokcdehaa.PCod Go.Proofs.YthegimfokcdehaaW.PrintWords Go.Proofs.YthegimfokcdehaaW.PrintLast Go.Proofs.YthegimfokcdehaaW.PrintMore
set_option linter.unusedVariables false
set_option linter.unusedSimpArgs false
def Rgood41 (p : S41) : Prop := (Lit.int .i64 p.f0).wf = true ∧ (Lit.int .i64 p.f1).wf = true
section
variable {H : Type} {enc : TypeId × Value → H} {W : World} {base : Nat} {spare : Nat → Bool} {held : Bool}
theorem Rop41 : Opens.Op enc Try.prog W base spare held 41 k41 Rgood41 := by
  intro fuel cs x h hw
  obtain ⟨⟨a, b⟩, hK, hg⟩ := Opens.op_struct2 Try.underlying41 (by kernel_rfl) rfl rfl (by kernel_rfl) (by kernel_rfl) (Opens.op_int (k := .i64) Try.underlying3) (Opens.op_int (k := .i64) Try.underlying3) fuel cs x h hw
  exact ⟨⟨a, b⟩, hK, hg⟩
end
theorem good_wf {l : List S41} (h : ∀ z ∈ l, Rgood41 z) : ∀ x ∈ l, wfC x := fun x hx => by
  obtain ⟨h1, h2⟩ := h x hx
  have a := bounds_i64 h1
  have b := bounds_i64 h2
  exact ⟨by omega, by omega, by omega, by omega⟩
theorem enc_cases (l0 : List Int) (l1 : List S41) : encS l0 l1 = ([], 2) ∨ ∃ u, Sizes l0 ∧ run (st0 (freshC l0)) (pairs l1) = some u ∧ encS l0 l1 = (digs u.L u.V, 0) := by
  unfold encS
  split
  · rename_i hS
    split
    · exact .inl rfl
    · rename_i u hu
      exact .inr ⟨u, hS, hu, rfl⟩
  · exact .inl rfl
/-- What the reader answers to the four. -/
structure Four (l0 : List Int) (l1 : List S41) (M b : List Int) (j : Nat) (more x y : Int) (x2 x3 x4 : List S41) (e4 : Int) : Prop where
  f1 : coder_Decode.f l0 M b = some (l1, 0)
  f2 : coder_Decode.f l0 M (b.take j) = some (x2, 11)
  f3 : coder_Decode.f l0 M (b ++ [more]) = some (x3, 11)
  f4 : coder_Decode.f l0 M (b.set j y) = some (x4, e4)
  z : x = 0 → e4 = 0
  nz : x ≠ 0 → e4 = 0 → x4 ≠ l1
  l4 : x4.length ≤ 1000
theorem four {l0 : List Int} {l1 : List S41} {u : St} (hl0 : l0.length ≤ 20) (hl1 : l1.length ≤ 150) (hi : i64s l0) (hwf : ∀ z ∈ l1, wfC z) (hS : Sizes l0) (hr : run (st0 (freshC l0)) (pairs l1) = some u) {j : Nat} (hj : j < (digs u.L u.V).length) {more x : Int} (hm0 : 0 ≤ more) (hm1 : more < 256) (hx0 : 0 ≤ x) (hx1 : x < 256) :
    ∃ x2 x3 x4 e4, Four l0 l1 (l1.map S41.f0) (digs u.L u.V) j more x (bits .xor .u8 ((digs u.L u.V).getD j 0) x) x2 x3 x4 e4 := by
  have hL := run_len hS hr
  rw [pairs_length] at hL
  have hbd : Dig (digs u.L u.V) := digs_dig _ _
  have hbl := digs_length u.L u.V
  have hMl : (l1.map S41.f0).length ≤ 1000 := by rw [List.length_map]; omega
  have hMi : i64s (l1.map S41.f0) := fun n hn => by
    obtain ⟨z, hz, rfl⟩ := List.mem_map.1 hn
    exact ⟨(hwf z hz).1, (hwf z hz).2.1⟩
  have hset := set_xor hbd hj hx0 hx1
  have hdl := dec_length l0 (l1.map S41.f0) ((digs u.L u.V).set j (bits .xor .u8 ((digs u.L u.V).getD j 0) x)) hset.1
  refine ⟨(decS l0 (l1.map S41.f0) ((digs u.L u.V).take j)).1, (decS l0 (l1.map S41.f0) (digs u.L u.V ++ [more])).1, (decS l0 (l1.map S41.f0) ((digs u.L u.V).set j (bits .xor .u8 ((digs u.L u.V).getD j 0) x))).1, (decS l0 (l1.map S41.f0) ((digs u.L u.V).set j (bits .xor .u8 ((digs u.L u.V).getD j 0) x))).2, ?_, ?_, ?_, ?_, ?_, ?_, by omega⟩
  · rw [dec_f (by omega) hMl (by omega) hi hMi hbd, dec_enc hS hr]
  · have hd : Dig ((digs u.L u.V).take j) := fun z hz => hbd z (List.mem_of_mem_take hz)
    have hlt : ((digs u.L u.V).take j).length = j := by rw [List.length_take]; omega
    rw [dec_f (by omega) hMl (by omega) hi hMi hd]
    have := dec_prefix hS hr hd (.inl (by rw [hlt])) (fun h => by have := congrArg List.length h; omega)
    rw [← this]
  · have hd : Dig (digs u.L u.V ++ [more]) := hbd.append (.one hm0 hm1)
    rw [dec_f (by omega) hMl (by rw [List.length_append, List.length_singleton]; omega) hi hMi hd]
    have := dec_prefix hS hr hd (.inr ⟨more, rfl⟩) (fun h => by have := congrArg List.length h; rw [List.length_append, List.length_singleton] at this; omega)
    rw [← this]
  · rw [dec_f (by omega) hMl (by rw [List.length_set]; omega) hi hMi hset.1]
  · intro h
    rw [hset.2.2 h, dec_enc hS hr]
  · intro h he hx
    exact h (hset.2.1 (dec_other hr hset.1 (Prod.ext rfl he) hx))
theorem copy_f {b : List Int} (h : b.length ≤ 10000) : lapidaryref00_Copy.f b = some b := by
  unfold lapidaryref00_Copy.f
  rw [if_pos (by simp; omega)]
  rfl
theorem back_j2 (l1 : List S41) (hl : l1.length ≤ 1000) : Ev (fun k => lapidarylaw06_CoderBack.j2 k l1 l1 0 11 11 false) true := by
  have h := sameG_ev l1 l1 hl
  rw [decide_eq_true rfl] at h
  refine Ev.step (f := fun k => (lapidaryref06_Same.f k l1 l1).bind fun t218 => if t218 = true then (lapidarylaw06_known.f k).bind fun t => some t else some false) (fun k => ?_) (Ev.bind h (by simp only [if_true]; exact Ev.bind known_ev (Ev.now _)))
  simp only [lapidarylaw06_CoderBack.j2]
  rw [if_neg (by decide)]
  simp only [if_true]
theorem back_l0 {l0 : List Int} {l1 : List S41} {b : List Int} {cut more x : Int} {x2 x3 x4 : List S41} {e4 : Int} (hl1 : l1.length ≤ 150) (hb0 : 5 ≤ b.length) (hb1 : b.length ≤ 1000) (hc : 0 ≤ cut ∧ cut ≤ 65535) (hF : Four l0 l1 (l1.map S41.f0) b (cut % (b.length : Int)).toNat more x (Go.bits .xor .u8 (b.getD (cut % (b.length : Int)).toNat 0) x) x2 x3 x4 e4) : ∀ (d i : Nat), l1.length - i = d → i ≤ l1.length → Ev (fun k => lapidarylaw06_CoderBack.l0 k l0 l1 cut more x b ((l1.take i).map S41.f0) (i : Int)) true := by
  intro d
  induction d with
  | zero =>
    intro i h hi
    obtain rfl : i = l1.length := by omega
    rw [List.take_length]
    have hj : Int.tmod (wrap64 cut) (b.length : Int) = cut % (b.length : Int) := by rw [w64' (by omega) (by omega), Int.tmod_eq_emod_of_nonneg (by omega)]
    have hj0 : 0 ≤ cut % (b.length : Int) := Int.emod_nonneg _ (by omega)
    have hj1 : cut % (b.length : Int) < b.length := Int.emod_lt_of_pos _ (by omega)
    refine Ev.step (f := fun k => if x = 0 then (if e4 = 0 then lapidarylaw06_CoderBack.j2 k l1 l1 0 11 11 false else lapidarylaw06_CoderBack.j2 k l1 l1 0 11 11 true) else (if e4 = 0 then (lapidaryref06_Same.f k x4 l1).bind fun t217 => lapidarylaw06_CoderBack.j2 k l1 l1 0 11 11 t217 else lapidarylaw06_CoderBack.j2 k l1 l1 0 11 11 false)) (fun k => ?_) ?_
    · simp only [lapidarylaw06_CoderBack.l0]
      rw [if_neg (by omega), if_neg (by omega), hF.f1, Option.bind_some, hj, if_pos hj0, if_pos (by omega), hF.f2, Option.bind_some, copy_f (by omega), Option.bind_some, if_pos (by omega), hF.f3, Option.bind_some, Option.bind_some, if_neg (by omega), hj, if_pos hj0, if_pos hj1, show rd b (cut % (b.length : Int)) = b.getD (cut % (b.length : Int)).toNat 0 from rfl, hF.f4, Option.bind_some]
    · by_cases hx : x = 0
      · simp only [if_pos hx, if_pos (hF.z hx)]
        exact back_j2 l1 (by omega)
      · simp only [if_neg hx]
        by_cases he : e4 = 0
        · simp only [if_pos he]
          have h := sameG_ev x4 l1 hF.l4
          rw [decide_eq_false (hF.nz hx he)] at h
          exact Ev.bind h (back_j2 l1 (by omega))
        · simp only [if_neg he]
          exact back_j2 l1 (by omega)
  | succ d ih =>
    intro i h hi
    have hrd : rd_T41 l1 (i : Int) = l1[i]'(by omega) := by unfold rd_T41; rw [Int.toNat_natCast, List.getD_eq_getElem?_getD, List.getElem?_eq_getElem (by omega)]; rfl
    refine Ev.step (fun k => ?_) (ih (i + 1) (by omega) (by omega))
    simp only [lapidarylaw06_CoderBack.l0]
    rw [if_pos (by omega), if_pos (by omega), if_pos (by rw [List.length_map, List.length_take]; omega), hrd, w64' (x := (i : Int) + 1) (by omega) (by omega)]
    have e : l1.take (i + 1) = l1.take i ++ [l1[i]'(by omega)] := List.take_succ_eq_append_getElem (by omega)
    rw [e, List.map_append]
    rfl
theorem back_j0 (l0 : List Int) (l1 : List S41) (cut more x : Int) : Ev (fun k => lapidarylaw06_CoderBack.j0 k l0 l1 cut more x true) true := by
  refine Ev.step (f := fun k => (lapidarylaw06_known.f k).bind fun t => some t) (fun k => ?_) (Ev.bind known_ev (Ev.now _))
  simp only [lapidarylaw06_CoderBack.j0, if_true]
theorem back_ev (l0 : List Int) (l1 : List S41) (cut more x : Int) (hi : i64s l0) (hwf : ∀ z ∈ l1, wfC z) (hc : 0 ≤ cut ∧ cut ≤ 65535) (hm : 0 ≤ more ∧ more ≤ 255) (hx : 0 ≤ x ∧ x ≤ 255) : Ev (fun k => lapidarylaw06_CoderBack.f k l0 l1 cut more x) true := by
  unfold lapidarylaw06_CoderBack.f
  by_cases h20 : (l0.length : Int) > 20
  · simp only [if_pos h20]
    exact back_j0 l0 l1 cut more x
  · simp only [if_neg h20]
    by_cases h150 : (l1.length : Int) > 150
    · simp only [decide_eq_true h150]
      exact back_j0 l0 l1 cut more x
    · simp only [decide_eq_false h150]
      have henc := enc_f (sizes := l0) (l := l1) (by omega) (by omega) hi hwf
      rcases enc_cases l0 l1 with he | ⟨u, hS, hr, he⟩
      · rw [he] at henc
        refine Ev.step (f := fun k => (lapidarylaw06_known.f k).bind fun t => some t) (fun k => ?_) (Ev.bind known_ev (Ev.now _))
        simp only [lapidarylaw06_CoderBack.j0]
        rw [if_neg (by decide), henc, Option.bind_some, if_neg (by decide)]
        exact if_pos rfl
      · rw [he] at henc
        obtain ⟨hz1, hz2, _⟩ := first_zero2 (run_inv hS hr)
        have hL := run_len hS hr
        rw [pairs_length] at hL
        have hj0 : 0 ≤ cut % ((digs u.L u.V).length : Int) := Int.emod_nonneg _ (by omega)
        have hj1 : cut % ((digs u.L u.V).length : Int) < (digs u.L u.V).length := Int.emod_lt_of_pos _ (by omega)
        obtain ⟨x2, x3, x4, e4, hF⟩ := four (by omega) (by omega) hi hwf hS hr (j := (cut % ((digs u.L u.V).length : Int)).toNat) (by omega) hm.1 (by omega) hx.1 (by omega) (more := more) (x := x)
        refine Ev.step (fun k => ?_) (back_l0 (by omega) (by omega) (by omega) hc hF l1.length 0 rfl (by omega))
        simp only [lapidarylaw06_CoderBack.j0]
        rw [if_neg (by decide), henc, Option.bind_some, if_pos rfl]
        rfl
theorem CoderBack (W : World) (A0 : Option Addr) (l0 : List Int) (c0 : Nat) (hr0 : Kd.C (Kd.int .i64) W A0 l0.length l0) (hc0 : l0.length ≤ c0) (hg0 : l0.length * Try.prog.bytesOf 3 ≤ reachBytes ∧ ∀ z ∈ l0, (Lit.int .i64 z).wf = true) (A1 : Option Addr) (l1 : List S41) (c1 : Nat) (hr1 : Kd.C k41 W A1 l1.length l1) (hc1 : l1.length ≤ c1) (hg1 : l1.length * Try.prog.bytesOf 41 ≤ reachBytes ∧ ∀ z ∈ l1, Rgood41 z)
    (cut : Int) (hcut : (Lit.int .u16 cut).wf = true) (more : Int) (hmore : (Lit.int .u8 more).wf = true) (x : Int) (hx : (Lit.int .u8 x).wf = true) :
    Calls Try.prog 5 #[.slice A0 l0.length c0, .slice A1 l1.length c1, .int .u16 cut, .int .u8 more, .int .u8 x] W fun e W' => e = .returned (.bool true) ∧ Below W.heap.size W W' := by
  have hbc := bounds_u16 hcut
  have hbm := bounds_u8 hmore
  have hbx := bounds_u8 hx
  obtain ⟨k, hk⟩ := (back_ev l0 l1 cut more x (fun z hz => by have := bounds_i64 (hg0.2 z hz); omega) (good_wf hg1.2) (by omega) (by omega) (by omega)).rounds
  exact lapidarylaw06_CoderBack.calls k A0 c0 l0 A1 c1 l1 cut more x true W hr0 hc0 hr1 hc1 hk
end Go.Proofs.Ythegimfokcdehaa.Pure
