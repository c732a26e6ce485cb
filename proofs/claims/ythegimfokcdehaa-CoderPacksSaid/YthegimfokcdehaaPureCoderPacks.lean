/- Any bytes are packed, and any are unpacked, as the document's answer tells; packed and unpacked they are as they were. -/
import Derived.Test.YthegimfokcdehaaPCodx22
import Derived.Test.YthegimfokcdehaaCoderLaws3
import Derived.OpenShut
namespace Go.Proofs.Ythegimfokcdehaa.Pure
open Go Go.RowKit Go.Proofs.Ythegimfokcdehaa.CM Go.Proofs.Ythegimfokcdehaa.CW Go.Proofs.Ythegimfokcdehaa.CL Go.Proofs.Ythegimfokcdehaa.PCod Go.Proofs.YthegimfokcdehaaW.PrintWords Go.Proofs.YthegimfokcdehaaW.PrintLast
set_option linter.unusedVariables false
set_option linter.unusedSimpArgs false
theorem codes_l0 (l : List Int) (hd : Dig l) (hl : l.length ≤ 1000) : ∀ (d i : Nat), l.length - i = d → i ≤ l.length → Ev (fun k => lapidaryref06_Codes.l0 k l (codes (l.take i)) (i : Int)) (codes l) := by
  intro d
  induction d with
  | zero =>
    intro i h hi
    obtain rfl : i = l.length := by omega
    refine Ev.step (f := fun _ => some (codes l)) (fun k => ?_) (Ev.now _)
    simp only [lapidaryref06_Codes.l0]
    rw [if_neg (by omega), List.take_length]
  | succ d ih =>
    intro i h hi
    have hrd : rd l (i : Int) = l[i]'(by omega) := by unfold rd; rw [Int.toNat_natCast, List.getD_eq_getElem?_getD, List.getElem?_eq_getElem (by omega)]; rfl
    have hx := hd (l[i]'(by omega)) (List.getElem_mem _)
    refine Ev.step (fun k => ?_) (ih (i + 1) (by omega) (by omega))
    simp only [lapidaryref06_Codes.l0]
    rw [if_pos (by omega), if_pos (by omega), if_pos (by unfold codes; rw [List.length_map, List.length_take]; omega), hrd, w64' (x := (i : Int) + 1) (by omega) (by omega), w64' (x := l[i]'(by omega)) (by omega) (by omega)]
    have e : l.take (i + 1) = l.take i ++ [l[i]'(by omega)] := List.take_succ_eq_append_getElem (by omega)
    rw [e]
    unfold codes
    rw [List.map_append]
    rfl
theorem codes_ev (l : List Int) (hd : Dig l) (hl : l.length ≤ 1000) : Ev (fun k => lapidaryref06_Codes.f k l) (codes l) := codes_l0 l hd hl _ 0 rfl (by omega)
theorem packs_j0 (l : List Int) (n : Int) (b : List Int) : Ev (fun k => lapidarylaw06_CoderPacks.j0 k l n b true) true := by
  refine Ev.step (f := fun k => (lapidarylaw06_known.f k).bind fun t => some t) (fun k => ?_) (Ev.bind known_ev (Ev.now _))
  simp only [lapidarylaw06_CoderPacks.j0, if_true]
theorem packs_out (n : Int) (b : List Int) (hn : n < 0 ∨ 65536 < n) : Ev (fun k => lapidarylaw06_CoderPacks.j2 k n b (unpS n b).1 (unpS n b).2 true) true := by
  refine Ev.step (f := fun k => (lapidarylaw06_known.f k).bind fun t => some t) (fun k => ?_) (Ev.bind known_ev (Ev.now _))
  simp only [lapidarylaw06_CoderPacks.j2, if_true]
  unfold unpS
  by_cases h : n < 0
  · rw [if_pos h]
    have h2 : ¬ n > 0 := by omega
    simp [h, h2]
  · rw [if_neg h, if_pos (show n > 65536 by omega)]
    have h2 : n > 0 := by omega
    simp [h, h2]
theorem packs_in (n : Int) (b : List Int) (hb : Dig b) (hl : b.length ≤ 400) (h0 : 0 ≤ n) (h1 : n ≤ 100) : Ev (fun k => lapidarylaw06_CoderPacks.j2 k n b (unpS n b).1 (unpS n b).2 false) true := by
  have hrd := rdec_f (sizes := [256]) (ms := List.replicate n.toNat 0) (b := b) (by decide) (by rw [List.length_replicate]; omega) (by omega) (irep _) hb
  have hdl := dec_length [256] (List.replicate n.toNat 0) b hb
  rw [List.length_replicate] at hdl
  have key : codes (unpS n b).1 = (decS [256] (List.replicate n.toNat 0) b).1 ∧ (unpS n b).2 = (decS [256] (List.replicate n.toNat 0) b).2 ∧ Dig (unpS n b).1 ∧ (unpS n b).1.length ≤ 1000 := by
    unfold unpS
    rw [if_neg (by omega), if_neg (by omega)]
    by_cases h2 : (decS [256] (List.replicate n.toNat 0) b).2 = 0
    · rw [if_pos h2]
      obtain ⟨e1, e2⟩ := codes_back (ms := []) (xs := (decS [256] (List.replicate n.toNat 0) b).1) (n := n.toNat) hb (Prod.ext rfl h2)
      exact ⟨e1, h2.symm, e2, by rw [List.length_map]; omega⟩
    · rw [if_neg h2]
      rcases dec_code [256] (List.replicate n.toNat 0) b with h | ⟨h, _⟩
      · exact absurd h h2
      · exact ⟨by rw [h]; rfl, rfl, .nil, by simp⟩
  obtain ⟨k1, k2, k3, k4⟩ := key
  refine Ev.step (f := fun k => (lapidaryref06_Codes.f k (unpS n b).1).bind fun t309 => (lapidaryref06_Same.f k t309 (decS [256] (List.replicate n.toNat 0) b).1).bind fun t312 => if t312 = true then (lapidarylaw06_known.f k).bind fun t => some t else some false) (fun k => ?_) (Ev.bind (codes_ev _ k3 k4) ?_)
  · simp only [lapidarylaw06_CoderPacks.j2]
    rw [if_neg (by decide), if_pos h0, if_pos (by omega), hrd, Option.bind_some, k2]
    simp only [if_true]
  · rw [k1]
    exact Ev.bind (sameC_ev _ (by omega)) (by simp only [if_true]; exact Ev.bind known_ev (Ev.now _))
theorem packs_j1 (n : Int) (b : List Int) (hb : Dig b) (hl : b.length ≤ 400) (hn : n ≤ 100 ∨ 65536 < n) : Ev (fun k => lapidarylaw06_CoderPacks.j1 k n b false) true := by
  refine Ev.step (f := fun k => (coder_Unpack.f k n b).bind fun bt294 => if n < 0 then lapidarylaw06_CoderPacks.j2 k n b bt294.1 bt294.2 true else lapidarylaw06_CoderPacks.j2 k n b bt294.1 bt294.2 (decide (n > 65536))) (fun k => ?_) (Ev.bind (unpack_ev hb (by omega) (by omega)) ?_)
  · simp only [lapidarylaw06_CoderPacks.j1]
    rw [if_neg (by decide)]
  · by_cases h0 : n < 0
    · simp only [if_pos h0]
      exact packs_out n b (.inl h0)
    · simp only [if_neg h0]
      by_cases h1 : n > 65536
      · simp only [decide_eq_true h1]
        exact packs_out n b (.inr h1)
      · simp only [decide_eq_false h1]
        exact packs_in n b hb hl (by omega) (by omega)
theorem packs_mid (l : List Int) (n : Int) (b : List Int) (hd : Dig l) (hl : l.length ≤ 200) (hb : Dig b) (hbl : b.length ≤ 400) (hn : n ≤ 100 ∨ 65536 < n) : Ev (fun k => lapidarylaw06_CoderPacks.j0 k l n b false) true := by
  obtain ⟨u, h1, h2, h3, h4, h5⟩ := unp_pack hd (by omega)
  have hup := unpack_ev (n := (l.length : Int)) (b := digs u.L u.V) (digs_dig _ _) (by rw [digs_length]; omega) (by omega)
  rw [h4] at hup
  have hcl : (codes l).length ≤ 1000 := by unfold codes; rw [List.length_map]; omega
  refine Ev.step (f := fun k => (coder_Pack.f k l).bind fun bt274 => (lapidaryref06_Codes.f k l).bind fun t281 => (lapidaryref06_Encode.f (([256] : List Int)) t281).bind fun bt284 => (coder_Unpack.f k (l.length : Int) bt274.1).bind fun bt288 => (lapidaryref00_Same.f bt274.1 bt284.1).bind fun t292 => (if t292 = true then (if bt274.2 = bt284.2 then (if bt288.2 = 0 then ((lapidaryref00_Same.f bt288.1 l).bind fun t293 => (lapidarylaw06_CoderPacks.j1 k n b (!t293))) else (lapidarylaw06_CoderPacks.j1 k n b true)) else (lapidarylaw06_CoderPacks.j1 k n b true)) else (lapidarylaw06_CoderPacks.j1 k n b true))) (fun k => ?_) (Ev.bind (pack_ev hd (by omega)) ?_)
  · simp only [lapidarylaw06_CoderPacks.j0]
    rw [if_neg (by decide)]
  · refine Ev.bind (codes_ev l hd (by omega)) ?_
    rw [renc_f (by decide) hcl (codes_wf hd), h1]
    simp only [Option.bind_some]
    refine Ev.bind hup ?_
    rw [same_self (digs_dig _ _), same_self hd]
    simp only [Option.bind_some, if_true, Bool.not_true]
    exact packs_j1 n b hb hbl hn
theorem CoderPacks : lapidarylaw06_CoderPacks.Pure := by
  intro l0 n l2 _ _ w0 wn _ _ w2
  have h0 := dig_of w0
  have h2 := dig_of w2
  refine Ev.rounds ?_
  unfold lapidarylaw06_CoderPacks.f
  by_cases c1 : (l0.length : Int) > 200
  · simp only [if_pos c1]
    exact packs_j0 l0 n l2
  · simp only [if_neg c1]
    by_cases c2 : (l2.length : Int) > 400
    · simp only [if_pos c2]
      exact packs_j0 l0 n l2
    · simp only [if_neg c2]
      by_cases c3 : n > 100
      · simp only [if_pos c3]
        by_cases c4 : n ≤ 65536
        · simp only [decide_eq_true c4]
          exact packs_j0 l0 n l2
        · simp only [decide_eq_false c4]
          exact packs_mid l0 n l2 h0 (by omega) h2 (by omega) (.inr (by omega))
      · simp only [if_neg c3]
        exact packs_mid l0 n l2 h0 (by omega) h2 (by omega) (.inl (by omega))
end Go.Proofs.Ythegimfokcdehaa.Pure
