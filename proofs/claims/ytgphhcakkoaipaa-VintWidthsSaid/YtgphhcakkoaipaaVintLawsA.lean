/- The plain laws VintPuts and VintGets; what all laws of this layer use. -/
import Derived.Test.YtgphhcakkoaipaaVintBase
namespace Go.Proofs.Ytgphhcakkoaipaa.VB
open Go Go.Lib Go.RowKit Go.Proofs.Ytgphhcakkoaipaa.VM Go.Proofs.Ytgphhcakkoaipaa.PVint Go.Proofs.YtgphhcakkoaipaaW.PrintWords Go.Proofs.YtgphhcakkoaipaaW.PrintLast Go.Proofs.YtgphhcakkoaipaaW.PrintMore
set_option linter.unusedVariables false
set_option linter.unusedSimpArgs false

theorem known_ev : Ev (fun k => lapidarylaw01_known.f k) true := Ev.of (fun k => lapidarylaw01_known.mono k) (k := 30) (by decide +kernel)

theorem known_then : Ev (fun k => (lapidarylaw01_known.f k).bind fun t => (some t)) true := Ev.bind known_ev (Ev.now true)

theorem bytes_of {l : List Int} (h : ∀ x ∈ l, (Lit.int .u8 x).wf = true) : ∀ c ∈ l, 0 ≤ c ∧ c < 256 := fun c hc => wf_u8 (h c hc)

theorem same_ev {a b : List Int} (h : a = b) : Ev (fun _ => lapidaryref00_Same.f a b) true := by
  rw [same_eq h]; exact Ev.now true

/-! ### VintPuts -/
theorem puts_l0 (xs : List Int) (hb : ∀ x ∈ xs, 0 ≤ x ∧ x < 18446744073709551616) (hx : xs.length ≤ 400) : ∀ (cs : List Int) (i : Nat), xs.drop i = cs → Ev (fun k => lapidarylaw01_VintPuts.l0 k xs (encs (xs.take i)) (i : Int)) true := by
  intro cs
  induction cs with
  | nil =>
    intro i h
    have := drop_nil h
    rw [List.take_of_length_le this]
    refine Ev.step (f := fun k => (vint_Put.f k xs).bind fun t155 => ((lapidaryref00_Same.f t155 (encs xs)).bind fun t158 => (if t158 = true then ((lapidarylaw01_known.f k).bind fun t159 => (some t159)) else (some false)))) (fun k => ?_) ?_
    · simp only [lapidarylaw01_VintPuts.l0]
      rw [if_neg (by omega)]
    · refine Ev.bind (put_ev xs hb (by omega)) (Ev.bind (same_ev rfl) ?_)
      exact Ev.congr (fun k => if_pos rfl) known_then
  | cons c cs ih =>
    intro i h
    obtain ⟨hlt, hd, ht, _⟩ := drop_cons h
    have hc : 0 ≤ c ∧ c < 18446744073709551616 := hb c (by have : c ∈ xs.drop i := by rw [h]; exact List.mem_cons_self ..
                                                           exact List.mem_of_mem_drop this)
    have hle : ∀ ys : List Int, (∀ x ∈ ys, 0 ≤ x ∧ x < 18446744073709551616) → (encs ys).length ≤ 10 * ys.length := by
      intro ys
      induction ys with
      | nil => intro _; simp [encs_nil]
      | cons y ys ih =>
        intro hy
        rw [encs_cons, List.length_append, List.length_cons]
        have h1 := ih (fun x hx => hy x (List.mem_cons_of_mem _ hx))
        have h2 := hy y (List.mem_cons_self ..)
        have h3 := enc_len10 (n := y.toNat) (by omega)
        omega
    have hl1 := hle (xs.take i) (fun x hx => hb x (List.mem_of_mem_take hx))
    have hl2 : (xs.take i).length = i := by rw [List.length_take]; omega
    have hl3 := enc_len10 (n := c.toNat) (by omega)
    have hput := rput_ev c.toNat (by omega)
    rw [show ((c.toNat : Nat) : Int) = c by omega] at hput
    refine Ev.step (f := fun k => (lapidaryref01_Put.f k c).bind fun t149 => (if (encs (xs.take i)).length + t149.length < 140737488355328 then (lapidarylaw01_VintPuts.l0 k xs (encs (xs.take i) ++ t149) (wrap64 ((i : Int) + 1))) else (none))) (fun k => ?_) ?_
    · simp only [lapidarylaw01_VintPuts.l0]
      rw [if_pos (by omega), if_pos (by omega), rd_at h]
    · refine Ev.bind hput ?_
      refine Ev.congr (fun k => if_pos (by omega)) ?_
      rw [w64 (by omega) (by omega)]
      have := ih (i + 1) hd
      rw [ht, encs_append, encs_cons, encs_nil, List.append_nil] at this
      exact this

theorem vintPuts : lapidarylaw01_VintPuts.Pure := by
  intro l0 hm hr hw
  apply Ev.rounds
  by_cases h : (l0.length : Int) > 400
  · refine Ev.congr (fun k => ?_) known_then
    unfold lapidarylaw01_VintPuts.f
    rw [if_pos h]
  · refine Ev.congr (fun k => ?_) (puts_l0 l0 (fun x hx => wf_u64 (hw x hx)) (by omega) l0 0 (List.drop_zero ..))
    unfold lapidarylaw01_VintPuts.f
    rw [if_neg h]
    rfl

/-! ### VintGets -/
theorem vintGets : lapidarylaw01_VintGets.Pure := by
  intro l0 a1 hm hr hw ha
  have hb := bytes_of hw
  apply Ev.rounds
  by_cases h : (l0.length : Int) > 4000
  · refine Ev.congr (fun k => ?_) known_then
    unfold lapidarylaw01_VintGets.f
    rw [if_pos h]
  · have := Ev.bind (get_ev l0 a1 hb (by omega)) (f := fun k bt166 => (lapidaryref01_Get.f k l0 a1).bind fun bt169 => (if bt166.1 = bt169.1 then (if bt166.2.1 = bt169.2.1 then (if bt166.2.2 = bt169.2.2 then ((lapidarylaw01_known.f k).bind fun t172 => (some t172)) else (some false)) else (some false)) else (some false))) (r := true) ?_
    · refine Ev.congr (fun k => ?_) this
      unfold lapidarylaw01_VintGets.f
      rw [if_neg h]
    · refine Ev.bind (rget_ev l0 a1 hb (by omega)) ?_
      exact Ev.congr (fun k => by rw [if_pos rfl, if_pos rfl, if_pos rfl]) known_then

end Go.Proofs.Ytgphhcakkoaipaa.VB
