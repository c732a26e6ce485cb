/- Pack and Unpack, plainly; the chapter's examples. -/
import Derived.Test.YthegimfokcdehaaCoderLaws
namespace Go.Proofs.Ythegimfokcdehaa.CL
open Go Go.RowKit Go.Proofs.Ythegimfokcdehaa.CM Go.Proofs.Ythegimfokcdehaa.CW Go.Proofs.Ythegimfokcdehaa.PCod Go.Proofs.YthegimfokcdehaaW.PrintWords Go.Proofs.YthegimfokcdehaaW.PrintLast Go.Proofs.YthegimfokcdehaaW.PrintMore
set_option linter.unusedVariables false
set_option linter.unusedSimpArgs false
theorem w64' {x : Int} (h0 : -9223372036854775808 ≤ x) (h1 : x < 9223372036854775808) : wrap64 x = x := by unfold wrap64; omega
def codes (l : List Int) : List S41 := l.map fun x => ⟨0, x⟩
theorem sizes256 : Sizes [256] := ⟨by decide, fun n hn => by rw [List.mem_singleton] at hn; subst hn; decide⟩
theorem sizes0 : Sizes [] := ⟨by decide, fun n hn => by simp at hn⟩
theorem enc_f {sizes : List Int} {l : List S41} (h0 : sizes.length ≤ 1000) (h1 : l.length ≤ 1000) (h2 : i64s sizes) (h3 : ∀ x ∈ l, wfC x) : coder_Encode.f sizes l = some (encS sizes l) := by
  unfold coder_Encode.f
  rw [if_pos ⟨h0, h1, h2, h3⟩]
theorem dec_f {sizes ms b : List Int} (h0 : sizes.length ≤ 1000) (h1 : ms.length ≤ 1000) (h2 : b.length ≤ 10000) (h3 : i64s sizes) (h4 : i64s ms) (h5 : Dig b) : coder_Decode.f sizes ms b = some (decS sizes ms b) := by
  unfold coder_Decode.f
  rw [if_pos ⟨h0, h1, h2, h3, h4, h5⟩]
theorem i256 : i64s [256] := fun n hn => by rw [List.mem_singleton] at hn; subst hn; decide
theorem i0 : i64s [] := fun n hn => by simp at hn
theorem irep (n : Nat) : i64s (List.replicate n 0) := fun m hm => by rw [List.eq_of_mem_replicate hm]; decide
theorem codes_wf {l : List Int} (h : Dig l) : ∀ x ∈ codes l, wfC x := by
  intro x hx
  obtain ⟨y, hy, rfl⟩ := List.mem_map.1 hx
  have := h y hy
  unfold wfC
  simp only
  omega
theorem codes_valid {l : List Int} (h : Dig l) : ∃ u, run (st0 (freshC [256])) (pairs (codes l)) = some u := by
  refine run_total _ _ ?_
  intro x hx
  unfold pairs codes at hx
  rw [List.map_map] at hx
  obtain ⟨y, hy, rfl⟩ := List.mem_map.1 hx
  have := h y hy
  rw [show (st0 (freshC [256])).C = freshC [256] from rfl, fresh_lens]
  exact .inr ⟨by show (0 : Int) ≤ 0; decide, by show (0 : Int) < 1; decide, by show 0 ≤ y; omega, by show y < 256; omega⟩
theorem pack_l0 (l : List Int) (hd : Dig l) (hl : l.length ≤ 1000) : ∀ (d i : Nat), l.length - i = d → i ≤ l.length → Ev (fun k => coder_Pack.l0 k (codes (l.take i)) l (l.length : Int) (i : Int)) (encS [256] (codes l)) := by
  intro d
  induction d with
  | zero =>
    intro i h hi
    obtain rfl : i = l.length := by omega
    refine Ev.step (f := fun _ => some (encS [256] (codes l))) (fun k => ?_) (Ev.now _)
    simp only [coder_Pack.l0]
    rw [if_neg (by omega), List.take_length, enc_f (by decide) (by unfold codes; rw [List.length_map]; exact hl) i256 (codes_wf hd)]
    rfl
  | succ d ih =>
    intro i h hi
    have hrd : rd l (i : Int) = l[i]'(by omega) := by unfold rd; rw [Int.toNat_natCast, List.getD_eq_getElem?_getD, List.getElem?_eq_getElem (by omega)]; rfl
    have hx := hd (l[i]'(by omega)) (List.getElem_mem _)
    refine Ev.step (fun k => ?_) (ih (i + 1) (by omega) (by omega))
    simp only [coder_Pack.l0]
    rw [if_pos (by omega), if_pos (by omega), if_pos (by omega), if_pos (by unfold codes; rw [List.length_map, List.length_take]; omega), hrd, w64' (x := l[i]'(by omega)) (by omega) (by omega), w64' (x := (i : Int) + 1) (by omega) (by omega)]
    congr 1
    rw [List.take_succ_eq_append_getElem (by omega)]
    unfold codes
    rw [List.map_append]
    rfl
theorem pack_ev {l : List Int} (hd : Dig l) (hl : l.length ≤ 1000) : Ev (fun k => coder_Pack.f k l) (encS [256] (codes l)) := pack_l0 l hd hl _ 0 rfl (by omega)
theorem unpack_l0 (l : List S41) (hl : l.length ≤ 1000) : ∀ (d i : Nat), l.length - i = d → i ≤ l.length → Ev (fun k => coder_Unpack.l0 k ((l.take i).map fun x => x.f1 % 256) l (l.length : Int) (i : Int)) (l.map fun x => x.f1 % 256, 0) := by
  intro d
  induction d with
  | zero =>
    intro i h hi
    obtain rfl : i = l.length := by omega
    refine Ev.step (f := fun _ => some (l.map fun x => x.f1 % 256, 0)) (fun k => ?_) (Ev.now _)
    simp only [coder_Unpack.l0]
    rw [if_neg (by omega), List.take_length]
  | succ d ih =>
    intro i h hi
    have hrd : rd_T41 l (i : Int) = l[i]'(by omega) := by unfold rd_T41; rw [Int.toNat_natCast, List.getD_eq_getElem?_getD, List.getElem?_eq_getElem (by omega)]; rfl
    refine Ev.step (fun k => ?_) (ih (i + 1) (by omega) (by omega))
    simp only [coder_Unpack.l0]
    rw [if_pos (by omega), if_pos (by omega), if_pos (by omega), if_pos (by rw [List.length_map, List.length_take]; omega), hrd, w64' (x := (i : Int) + 1) (by omega) (by omega)]
    congr 1
    rw [List.take_succ_eq_append_getElem (by omega), List.map_append]
    rfl
def unpS (n : Int) (b : List Int) : List Int × Int :=
  if n < 0 then ([], 2) else if n > 65536 then ([], 3) else if (decS [256] (List.replicate n.toNat 0) b).2 = 0 then ((decS [256] (List.replicate n.toNat 0) b).1.map (fun x => x.f1 % 256), 0) else ([], (decS [256] (List.replicate n.toNat 0) b).2)
theorem dec_length (sizes ms b : List Int) (hb : Dig b) : (decS sizes ms b).1.length ≤ ms.length := by
  rcases dec_code sizes ms b with h | ⟨h, _⟩
  · obtain ⟨_, u, _, _, h4⟩ := dec_some (xs := (decS sizes ms b).1) hb (by rw [← h])
    have := congrArg List.length h4
    rw [List.length_map] at this
    omega
  · rw [h]; simp
theorem unpack_ev {n : Int} {b : List Int} (hb : Dig b) (hl : b.length ≤ 10000) (hn : n ≤ 1000 ∨ n > 65536) : Ev (fun k => coder_Unpack.f k n b) (unpS n b) := by
  unfold unpS
  by_cases h0 : n < 0
  · rw [if_pos h0]
    refine Ev.congr (f := fun _ => some (([] : List Int), (2 : Int))) (fun k => ?_) (Ev.now _)
    unfold coder_Unpack.f
    rw [if_pos h0]
  · rw [if_neg h0]
    by_cases h1 : n > 65536
    · rw [if_pos h1]
      refine Ev.congr (f := fun _ => some (([] : List Int), (3 : Int))) (fun k => ?_) (Ev.now _)
      unfold coder_Unpack.f
      rw [if_neg h0, if_pos h1]
    · rw [if_neg h1]
      have hdf := dec_f (sizes := [256]) (ms := List.replicate n.toNat 0) (b := b) (by decide) (by rw [List.length_replicate]; omega) hl i256 (irep _) hb
      have hdl := dec_length [256] (List.replicate n.toNat 0) b hb
      rw [List.length_replicate] at hdl
      by_cases h2 : (decS [256] (List.replicate n.toNat 0) b).2 = 0
      · rw [if_pos h2]
        refine Ev.congr (f := fun k => coder_Unpack.l0 k [] (decS [256] (List.replicate n.toNat 0) b).1 ((decS [256] (List.replicate n.toNat 0) b).1.length : Int) 0) (fun k => ?_) (unpack_l0 _ (by omega) _ 0 rfl (by omega))
        unfold coder_Unpack.f
        rw [if_neg h0, if_neg h1, if_pos (by omega), if_pos (by omega), hdf, Option.bind_some, if_pos h2]
      · rw [if_neg h2]
        refine Ev.congr (f := fun _ => some (([] : List Int), (decS [256] (List.replicate n.toNat 0) b).2)) (fun k => ?_) (Ev.now _)
        unfold coder_Unpack.f
        rw [if_neg h0, if_neg h1, if_pos (by omega), if_pos (by omega), hdf, Option.bind_some, if_neg h2]
theorem codes_f0 (l : List Int) : (codes l).map S41.f0 = List.replicate l.length 0 := by
  unfold codes
  rw [List.map_map]
  induction l with
  | nil => rfl
  | cons x l ih => rw [List.map_cons, ih, List.length_cons, List.replicate_succ]; rfl
theorem codes_f1 {l : List Int} (h : Dig l) : (codes l).map (fun x => x.f1 % 256) = l := by
  unfold codes
  rw [List.map_map]
  have : ∀ x ∈ l, ((fun x : S41 => x.f1 % 256) ∘ fun x => (⟨0, x⟩ : S41)) x = id x := fun x hx => by
    have := h x hx
    show x % 256 = x
    omega
  rw [List.map_congr_left this, List.map_id]
theorem unp_pack {l : List Int} (hd : Dig l) (hl : l.length ≤ 1000) : ∃ u, encS [256] (codes l) = (digs u.L u.V, 0) ∧ SInv u ∧ u.L ≤ 5 + 2 * l.length ∧ unpS l.length (digs u.L u.V) = (l, 0) ∧ decS [256] (List.replicate l.length 0) (digs u.L u.V) = (codes l, 0) := by
  obtain ⟨u, hu⟩ := codes_valid hd
  have hdec := dec_enc sizes256 hu
  rw [codes_f0] at hdec
  have hL := run_len sizes256 hu
  rw [pairs_length] at hL
  refine ⟨u, enc_run sizes256 hu, run_inv sizes256 hu, by unfold codes at hL; rw [List.length_map] at hL; exact hL, ?_, hdec⟩
  unfold unpS
  rw [if_neg (by omega), if_neg (by omega), Int.toNat_natCast, hdec, if_pos rfl, codes_f1 hd]
theorem enc_nil : encS [] [] = ([0, 0, 0, 0, 0], 0) := by rw [enc_run sizes0 (u := st0 (freshC [])) rfl]; rfl
theorem pack_zero : encS [256] (codes [0]) = ([0, 0, 0, 0, 0, 0], 0) := by
  have hsh : share (freshC [256]) 0 0 = some (0, 1) := by decide +kernel
  have hw : whole (freshC [256]) 0 = 256 := by decide +kernel
  have hst : CM.step (st0 (freshC [256])) (0, 0) = some ⟨cntC (freshC [256]) 0 0, 16777215 * pw 1, 0, 6⟩ := by
    unfold CM.step
    rw [show (st0 (freshC [256])).C = freshC [256] from rfl, hsh, Option.map_some, hw]
    have : (st0 (freshC [256])).R / 256 * 1 = 16777215 := by show (4294967295 : Int) / 256 * 1 = 16777215; decide
    rw [this]
    have hm : many 16777215 = 1 := by decide
    rw [hm]
    have hV : ((st0 (freshC [256])).V + (st0 (freshC [256])).R / 256 * 0) * pw 1 = 0 := by
      rw [Int.mul_zero]
      show ((0 : Int) + 0) * pw 1 = 0
      omega
    have hL : (st0 (freshC [256])).L + 1 = 6 := rfl
    simp only [hV, hL]
  have hr : run (st0 (freshC [256])) (pairs (codes [0])) = some ⟨cntC (freshC [256]) 0 0, 16777215 * pw 1, 0, 6⟩ := by
    have e : pairs (codes [0]) = [(0, 0)] := rfl
    rw [e, run, hst, Option.bind_some, run]
  rw [enc_run sizes256 hr]
  rfl
theorem dec_none : decS [] [0] [] = ([], 2) := by
  unfold decS
  rw [if_neg]
  intro h
  have := h.2
  revert this
  decide
theorem dig0 (n : Nat) : Dig (List.replicate n 0) := .rep n (by decide) (by decide)
theorem known_ev : Ev (fun k => lapidarylaw06_known.f k) true := by
  unfold lapidarylaw06_known.f
  rw [enc_f (by decide) (by decide) i0 (fun x hx => by simp at hx)]
  simp only [Option.bind_some, enc_nil]
  have hd0 : Dig [0] := dig0 1
  obtain ⟨u, h1, h2, h3, h4, h5⟩ := unp_pack hd0 (by decide)
  have hb : digs u.L u.V = [0, 0, 0, 0, 0, 0] := by
    have := pack_zero
    rw [h1] at this
    injection this
  rw [hb] at h4
  refine Ev.bind (pack_ev hd0 (by decide)) ?_
  rw [pack_zero, dec_f (by decide) (by decide) (by decide) i0 (fun n hn => by rw [List.mem_singleton] at hn; subst hn; decide) .nil]
  simp only [Option.bind_some, dec_none]
  refine Ev.bind (unpack_ev (dig0 6) (by decide) (.inl (by decide))) ?_
  have h4' : unpS 1 [0, 0, 0, 0, 0, 0] = ([0], 0) := h4
  have e1 : lapidaryref00_Same.f [0, 0, 0, 0, 0] (List.replicate 5 0) = some true := by
    have := same_ev (dig0 5) (dig0 5)
    simpa using this
  have e2 : lapidaryref00_Same.f [0, 0, 0, 0, 0, 0] (List.replicate 6 0) = some true := by
    have := same_ev (dig0 6) (dig0 6)
    simpa using this
  have e3 : lapidaryref00_Same.f [0] [0] = some true := by
    have := same_ev hd0 hd0
    simpa using this
  refine Ev.congr (f := fun _ => some true) (fun k => ?_) (Ev.now _)
  simp only [h4', e1, e2, e3, Option.bind_some, if_true]
  rfl
end Go.Proofs.Ythegimfokcdehaa.CL
