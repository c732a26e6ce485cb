/- The plain laws PredictBytes and PredictReads (the chapter's example apart). -/
import Derived.Test.YtgkncgiemfbglaaPredLaws
namespace Go.Proofs.Ytgkncgiemfbglaa.VB
open Go Go.Lib Go.RowKit Go.Proofs.Ytgkncgiemfbglaa.VM Go.Proofs.Ytgkncgiemfbglaa.PPrd Go.Proofs.YtgkncgiemfbglaaW.PrintWords Go.Proofs.YtgkncgiemfbglaaW.PrintLast Go.Proofs.YtgkncgiemfbglaaW.PrintMore
set_option linter.unusedVariables false
set_option linter.unusedSimpArgs false
theorem same_l0 (a : List Int) (ha : a.length ≤ 1000000) : ∀ (d i : Nat), a.length - i = d → i ≤ a.length → Ev (fun k => lapidaryref00_SameInts.l0 k a a (i : Int)) true := by
  intro d
  induction d with
  | zero =>
    intro i h hi
    refine Ev.step (f := fun _ => some true) (fun k => ?_) (Ev.now _)
    simp only [lapidaryref00_SameInts.l0]
    rw [if_neg (by omega)]
  | succ d ih =>
    intro i h hi
    refine Ev.step (fun k => ?_) (ih (i + 1) (by omega) (by omega))
    simp only [lapidaryref00_SameInts.l0]
    rw [if_pos (by omega), if_pos (by omega), if_pos (by omega), if_pos trivial, w64 (x := (i : Int) + 1) (by omega) (by omega)]
    rfl
theorem sameI_ev (a : List Int) (ha : a.length ≤ 1000000) : Ev (fun k => lapidaryref00_SameInts.f k a a) true := by
  unfold lapidaryref00_SameInts.f
  simp only [if_true]
  exact same_l0 a ha _ 0 rfl (by omega)
def U64 (l : List Int) : Prop := ∀ u ∈ l, 0 ≤ u ∧ u < 18446744073709551616
theorem read_both (l : List Int) (hb : ∀ c ∈ l, 0 ≤ c ∧ c < 256) (hl : l.length ≤ 1000000) : ∀ (d : Nat) (acc : List Int) (a : Int), (l.length : Int) - a = d → 0 ≤ a → acc.length + d ≤ 1000000000000 → U64 acc →
    ∃ r : List Int × Int, Ev (fun k => predict_Read.l0 k l (acc.map zag) a) (r.1.map zag, r.2) ∧ Ev (fun k => lapidaryref01_All.l0 k l acc a) r ∧ r.1.length ≤ acc.length + d ∧ U64 r.1 ∧ (r.2 ≠ 0 → r.1 = []) := by
  intro d
  induction d using Nat.strongRecOn with
  | _ d ih =>
    intro acc a hd h0 hacc hu
    by_cases hlt : a < (l.length : Int)
    · have hg := getInt_ev l a hb (by omega)
      have hrg := rget_ev l a hb (by omega)
      by_cases he : (getS l a).2.2 = 0
      · have hk := getS_ok (l := l) (a := a) (n := (getS l a).1) (e := (getS l a).2.1) hb (by rw [← he])
        have hgi : getIntS l a = (zag (getS l a).1, (getS l a).2.1, 0) := by unfold getIntS; rw [if_pos he]
        rw [hgi] at hg
        obtain ⟨r, h1, h2, h3, h4, h5⟩ := ih ((l.length : Int) - (getS l a).2.1).toNat (by omega) (acc ++ [(getS l a).1]) (getS l a).2.1 (by omega) (by omega) (by rw [List.length_append, List.length_singleton]; omega) (fun u hm => by
          rcases List.mem_append.1 hm with hm | hm
          · exact hu u hm
          · rw [List.mem_singleton] at hm; rw [hm]; exact hk.2.2.2.1)
        rw [List.length_append, List.length_singleton] at h3
        rw [List.map_append] at h1
        refine ⟨r, ?_, ?_, by omega, h4, h5⟩
        · refine Ev.step (f := fun k => (vint_GetInt.f k l a).bind fun bt147 => (if bt147.2.2 = 0 then (if (acc.map zag).length < 17592186044416 then (predict_Read.l0 k l (acc.map zag ++ [bt147.1]) bt147.2.1) else (none)) else (some (([] : List Int), bt147.2.2)))) (fun k => ?_) (Ev.bind hg (Ev.congr (fun k => ?_) h1))
          · simp only [predict_Read.l0]
            rw [if_pos hlt]
          · rw [if_pos rfl, if_pos (by rw [List.length_map]; omega)]
            rfl
        · refine Ev.step (f := fun k => (lapidaryref01_Get.f k l a).bind fun bt158 => (if bt158.2.2 = 0 then (if acc.length < 17592186044416 then (lapidaryref01_All.l0 k l (acc ++ [bt158.1]) bt158.2.1) else (none)) else (some (([] : List Int), bt158.2.2)))) (fun k => ?_) (Ev.bind hrg (Ev.congr (fun k => ?_) h2))
          · simp only [lapidaryref01_All.l0]
            rw [if_pos hlt]
          · rw [if_pos he, if_pos (by omega)]
      · have hgi : getIntS l a = (0, 0, (getS l a).2.2) := by unfold getIntS; rw [if_neg he]
        rw [hgi] at hg
        refine ⟨([], (getS l a).2.2), ?_, ?_, by simp, (fun u hm => nomatch hm), fun _ => rfl⟩
        · refine Ev.step (f := fun k => (vint_GetInt.f k l a).bind fun bt147 => (if bt147.2.2 = 0 then (if (acc.map zag).length < 17592186044416 then (predict_Read.l0 k l (acc.map zag ++ [bt147.1]) bt147.2.1) else (none)) else (some (([] : List Int), bt147.2.2)))) (fun k => ?_) (Ev.bind hg (Ev.congr (fun k => ?_) (Ev.now _)))
          · simp only [predict_Read.l0]
            rw [if_pos hlt]
          · rw [if_neg he]
            rfl
        · refine Ev.step (f := fun k => (lapidaryref01_Get.f k l a).bind fun bt158 => (if bt158.2.2 = 0 then (if acc.length < 17592186044416 then (lapidaryref01_All.l0 k l (acc ++ [bt158.1]) bt158.2.1) else (none)) else (some (([] : List Int), bt158.2.2)))) (fun k => ?_) (Ev.bind hrg (Ev.congr (fun k => ?_) (Ev.now _)))
          · simp only [lapidaryref01_All.l0]
            rw [if_pos hlt]
          · rw [if_neg he]
    · refine ⟨(acc, 0), ?_, ?_, by simp, hu, fun h => absurd rfl h⟩
      · refine Ev.step (f := fun _ => some (acc.map zag, 0)) (fun k => ?_) (Ev.now _)
        simp only [predict_Read.l0]
        rw [if_neg hlt]
      · refine Ev.step (f := fun _ => some (acc, 0)) (fun k => ?_) (Ev.now _)
        simp only [lapidaryref01_All.l0]
        rw [if_neg hlt]
theorem rread_l0 (u : List Int) (hu : U64 u) (hl : u.length ≤ 1000000) : ∀ (d i : Nat), u.length - i = d → i ≤ u.length → Ev (fun k => lapidaryref14_Read.l0 k u ((u.take i).map zag) (i : Int)) (u.map zag, 0) := by
  intro d
  induction d with
  | zero =>
    intro i h hi
    obtain rfl : i = u.length := by omega
    refine Ev.step (f := fun _ => some (u.map zag, 0)) (fun k => ?_) (Ev.now _)
    simp only [lapidaryref14_Read.l0]
    rw [if_neg (by omega), List.take_length]
  | succ d ih =>
    intro i h hi
    obtain ⟨x, hxe⟩ : ∃ x, x = u[i]'(by omega) := ⟨_, rfl⟩
    have hx : 0 ≤ x ∧ x < 18446744073709551616 := by rw [hxe]; exact hu _ (List.getElem_mem _)
    have hrd : rd u (i : Int) = x := by rw [hxe]; exact rd_get (by omega)
    have htk : u.take (i + 1) = u.take i ++ [x] := by rw [hxe]; exact List.take_succ_eq_append_getElem (by omega)
    refine Ev.step (fun k => ?_) (ih (i + 1) (by omega) (by omega))
    simp only [lapidaryref14_Read.l0]
    rw [if_pos (by omega), if_pos (by omega), hrd, rzag_f hx, Option.bind_some, if_pos (by rw [List.length_map, List.length_take]; omega), w64 (x := (i : Int) + 1) (by omega) (by omega), htk, List.map_append]
    rfl
theorem reads_ev {l : List Int} (hb : ∀ c ∈ l, 0 ≤ c ∧ c < 256) (hl : l.length ≤ 100000) : ∃ r : List Int × Int, Ev (fun k => predict_Read.f k l) r ∧ Ev (fun k => lapidaryref14_Read.f k l) r ∧ r.1.length ≤ 1000000 := by
  obtain ⟨r, h1, h2, h3, h4, h5⟩ := read_both l hb (by omega) l.length [] 0 (by omega) (by omega) (by simp; omega) (fun u hm => nomatch hm)
  simp only [List.length_nil] at h3
  refine ⟨(r.1.map zag, r.2), h1, ?_, by rw [List.length_map]; omega⟩
  unfold lapidaryref14_Read.f lapidaryref01_All.f
  refine Ev.bind h2 ?_
  by_cases h0 : r.2 = 0
  · simp only [if_pos h0, h0]
    exact rread_l0 r.1 h4 (by omega) _ 0 rfl (by omega)
  · simp only [if_neg h0]
    rw [h5 h0]
    exact Ev.now _
theorem bytes_j (l0 l1 : List Int) : Ev (fun k => lapidarylaw14_PredictBytes.j0 k l0 l1 true) true := by
  refine Ev.step (f := fun _ => some true) (fun k => ?_) (Ev.now _)
  simp only [lapidarylaw14_PredictBytes.j0, if_true]
  rfl
theorem PredictBytes : lapidarylaw14_PredictBytes.Pure := by
  intro l0 l1 _ _ w0 _ _ w1
  have h0 : I64 l0 := fun x hx => wf_i64 (w0 x hx)
  have h1 : ∀ c ∈ l1, 0 ≤ c ∧ c < 256 := fun c hc => wf_u8 (w1 c hc)
  refine Ev.rounds ?_
  unfold lapidarylaw14_PredictBytes.f
  by_cases c0 : (l0.length : Int) > 200
  · simp only [if_pos c0]
    exact bytes_j l0 l1
  · simp only [if_neg c0]
    by_cases c1 : (l1.length : Int) > 2000
    · simp only [decide_eq_true c1]
      exact bytes_j l0 l1
    · simp only [decide_eq_false c1]
      obtain ⟨r, hr1, hr2, hr3⟩ := reads_ev h1 (by omega)
      refine Ev.step (f := fun k => (predict_Bytes.f k l0).bind fun t195 => (predict_Read.f k t195).bind fun bt198 => (predict_Read.f k l1).bind fun bt202 => (lapidaryref14_Read.f k l1).bind fun bt206 => (lapidaryref14_Bytes.f k l0).bind fun t210 => (lapidaryref00_Same.f t195 t210).bind fun t213 => if t213 = true then ((lapidaryref00_SameInts.f k bt198.1 l0).bind fun t214 => if t214 = true then (if bt198.2 = 0 then ((lapidaryref00_SameInts.f k bt202.1 bt206.1).bind fun t215 => if t215 = true then (if bt202.2 = bt206.2 then ((lapidarylaw14_known.f).bind fun t216 => some t216) else some false) else some false) else some false) else some false) else some false) (fun k => ?_) (Ev.bind (bytes_ev h0 (by omega)) (Ev.bind (read_ev h0 (by omega)) (Ev.bind hr1 (Ev.bind hr2 (Ev.bind (rbytes_ev h0 (by omega)) ?_)))))
      · simp only [lapidarylaw14_PredictBytes.j0]
        rw [if_neg (by decide)]
      · rw [same_eq rfl]
        simp only [Option.bind_some, if_true]
        refine Ev.bind (sameI_ev l0 (by omega)) ?_
        simp only [if_true]
        refine Ev.bind (sameI_ev r.1 hr3) ?_
        simp only [if_true]
        exact Ev.now _
theorem encI_nil {l : List Int} (h : (encI l).length = 0) : l.length = 0 := by
  cases l with
  | nil => rfl
  | cons x xs => rw [encI_cons, List.length_append] at h; have := enc_pos (zig x).toNat; omega
theorem reads_j (l0 : List Int) (cut : Int) (h0 : I64 l0) (hl : l0.length ≤ 200) (hc : 0 ≤ cut ∧ cut < 256) : Ev (fun k => lapidarylaw14_PredictReads.j0 k l0 cut (encI l0) false) true := by
  have hle := encI_len h0
  by_cases hz : (encI l0).length = 0
  · refine Ev.step (f := fun _ => some true) (fun k => ?_) (Ev.now _)
    simp only [lapidarylaw14_PredictReads.j0]
    have := encI_nil hz
    rw [if_neg (by decide), if_pos (by omega), if_pos (by omega)]
    rfl
  · have hj : Int.tmod (wrap64 cut) ((encI l0).length : Int) = cut % ((encI l0).length : Int) := by rw [w64 (by omega) (by omega), Int.tmod_eq_emod_of_nonneg (by omega)]
    have hj0 : 0 ≤ cut % ((encI l0).length : Int) := Int.emod_nonneg _ (by omega)
    have hj1 : cut % ((encI l0).length : Int) < (encI l0).length := Int.emod_lt_of_pos _ (by omega)
    have hcut := read_cut l0 h0 [] [] (cut % ((encI l0).length : Int)).toNat (by omega) (fun c hc => nomatch hc) (by simp; omega) (by simp; omega)
    simp only [List.nil_append, List.length_nil] at hcut
    have hstep : ∀ r : List Int × Int, Ev (fun k => predict_Read.f k ((encI l0).take (cut % ((encI l0).length : Int)).toNat)) r → ((r.2 = 10 ∧ r.1.length = 0) ∨ (r.2 = 0 ∧ r.1.length < l0.length)) → Ev (fun k => lapidarylaw14_PredictReads.j0 k l0 cut (encI l0) false) true := by
      intro r hr hcase
      refine Ev.step (f := fun k => (predict_Read.f k ((encI l0).take (cut % ((encI l0).length : Int)).toNat)).bind fun bt250 => (if bt250.2 = 10 then (if (bt250.1.length : Int) = 0 then ((lapidarylaw14_known.f).bind fun t254 => (some t254)) else (if bt250.2 = 0 then (if (bt250.1.length : Int) < (l0.length : Int) then ((lapidarylaw14_known.f).bind fun t255 => (some t255)) else (some false)) else (some false))) else (if bt250.2 = 0 then (if (bt250.1.length : Int) < (l0.length : Int) then ((lapidarylaw14_known.f).bind fun t256 => (some t256)) else (some false)) else (some false)))) (fun k => ?_) (Ev.bind hr ?_)
      · simp only [lapidarylaw14_PredictReads.j0]
        rw [if_neg (by decide), if_neg (by omega), hj, if_pos hj0, if_pos (by omega)]
      · rcases hcase with ⟨h1, h2⟩ | ⟨h1, h2⟩
        · simp only [if_pos h1, if_pos (show (r.1.length : Int) = 0 by omega)]
          exact Ev.now _
        · simp only [if_neg (show ¬ r.2 = 10 by omega), if_pos h1, if_pos (show (r.1.length : Int) < (l0.length : Int) by omega)]
          exact Ev.now _
    rcases hcut with h | ⟨ys, hy, h⟩
    · exact hstep _ h (.inl ⟨rfl, rfl⟩)
    · exact hstep _ h (.inr ⟨rfl, hy⟩)
theorem PredictReads : lapidarylaw14_PredictReads.Pure := by
  intro l0 l1 a2 m0 _ w0 m1 _ w1 wc
  have h0 : I64 l0 := fun x hx => wf_i64 (w0 x hx)
  have h1 : I64 l1 := fun x hx => wf_i64 (w1 x hx)
  have hm0 : l0.length ≤ 9223372036854775807 := m0
  have hm1 : l1.length ≤ 9223372036854775807 := m1
  have hc := wf_u8 wc
  refine Ev.rounds ?_
  unfold lapidarylaw14_PredictReads.f
  by_cases hbig : wrap64 ((l0.length : Int) + (l1.length : Int)) > 200
  · simp only [if_pos hbig]
    exact Ev.now _
  · simp only [if_neg hbig]
    have hmx : (l0.length : Int) + l1.length ≤ 200 := by rw [w64 (by omega) (by omega)] at hbig; omega
    have hall : I64 (l0 ++ l1) := fun x hx => by
      rcases List.mem_append.1 hx with hx | hx
      · exact h0 x hx
      · exact h1 x hx
    have e0 := encI_len h0
    have e1 := encI_len h1
    have hlen : (l0 ++ l1).length ≤ 1000 := by rw [List.length_append]; omega
    have hA : ([] : List Int).length + (encI l0).length < 140737488355328 := by simp; omega
    have hB : (encI l0).length + (encI l1).length < 140737488355328 := by omega
    have hC : ([] : List Int).length + l0.length < 17592186044416 := by simp; omega
    have hD : l0.length + l1.length < 17592186044416 := by omega
    refine Ev.bind (bytes_ev h0 (by omega)) (Ev.bind (bytes_ev h1 (by omega)) ?_)
    simp only [if_pos hA, if_pos hC, List.nil_append, Option.bind_some, if_pos hB, if_pos hD]
    rw [← encI_append]
    refine Ev.bind (read_ev hall hlen) ?_
    simp only [if_true]
    refine Ev.bind (sameI_ev (l0 ++ l1) (by omega)) ?_
    simp only [if_true]
    refine Ev.bind (bytes_ev hall hlen) ?_
    rw [same_eq rfl]
    simp only [Option.bind_some, Bool.not_true]
    exact reads_j l0 a2 h0 (by omega) hc
end Go.Proofs.Ytgkncgiemfbglaa.VB
