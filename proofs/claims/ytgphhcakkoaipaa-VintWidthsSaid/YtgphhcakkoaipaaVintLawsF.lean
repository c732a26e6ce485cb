/- The plain law VintFields; fixed fields. -/
import Derived.Test.YtgphhcakkoaipaaVintLawsA
import Derived.Test.YtgphhcakkoaipaaPVintx8
namespace Go.Proofs.Ytgphhcakkoaipaa.VB
open Go Go.Lib Go.RowKit Go.Proofs.Ytgphhcakkoaipaa.VM Go.Proofs.Ytgphhcakkoaipaa.PVint Go.Proofs.YtgphhcakkoaipaaW.PrintWords Go.Proofs.YtgphhcakkoaipaaW.PrintLast Go.Proofs.YtgphhcakkoaipaaW.PrintMore
set_option linter.unusedVariables false
set_option linter.unusedSimpArgs false

/-! ### Fixed -/
theorem pow256_le {i j : Nat} (h : i ≤ j) : (256 : Int) ^ i ≤ 256 ^ j := by
  obtain ⟨d, rfl⟩ := Nat.le.dest h
  clear h
  induction d with
  | zero => exact Int.le_refl _
  | succ d ih =>
    rw [← Nat.add_assoc, pow256_succ]
    have := pow256_pos (i + d)
    generalize (256 : Int) ^ (i + d) = p at *
    omega
def fixedS (n : Int) (w : Int) : List Int × Int := if w < 1 then ([], 2) else if w > 8 then ([], 2) else if n / 256 ^ w.toNat > 0 then ([], 2) else (le n w.toNat, 0)

theorem shr8 {n : Int} {i : Nat} (hi : i ≤ 8) : shr .u64 n (wrap64 (8 * (i : Int))) = n / 256 ^ i := by
  have e : min (wrap64 (8 * (i : Int))).toNat IntKind.u64.bits = 8 * i := by
    rw [w64 (by omega) (by omega)]
    show min _ 64 = _
    omega
  have ep : (2 : Int) ^ (8 * i) = 256 ^ i := by rw [Int.pow_mul]; rfl
  unfold shr
  rw [e, ep]

theorem fixed_l0 (n : Int) (w : Nat) (hw : w ≤ 8) : ∀ (d i : Nat), w - i = d → i ≤ w → Ev (fun k => vint_Fixed.l0 k n (le n i) (w : Int) (i : Int)) (le n w, 0) := by
  intro d
  induction d with
  | zero =>
    intro i hd hi
    obtain rfl : i = w := by omega
    refine Ev.step (f := fun _ => some (le n i, 0)) (fun k => ?_) (Ev.now _)
    simp only [vint_Fixed.l0]
    rw [if_neg (by omega)]
  | succ d ih =>
    intro i hd hi
    have hw' : 0 ≤ wrap64 (8 * (i : Int)) := by rw [w64 (by omega) (by omega)]; omega
    have hl := le_len i n
    refine Ev.step (fun k => ?_) (ih (i + 1) (by omega) (by omega))
    simp only [vint_Fixed.l0]
    rw [if_pos (by omega), if_pos hw', if_pos (by omega), shr8 (by omega), ← le_snoc, w64 (x := (i : Int) + 1) (by omega) (by omega)]
    rfl

theorem fixed_j0 (n : Int) (w : Nat) (h1 : 1 ≤ w) (hw : w ≤ 8) (hn : 0 ≤ n ∧ n < 18446744073709551616) (b : Bool) (hb : b = decide (n / 256 ^ w > 0)) : Ev (fun k => vint_Fixed.j0 k n (w : Int) b) (if n / 256 ^ w > 0 then ([], 2) else (le n w, 0)) := by
  by_cases h : n / 256 ^ w > 0
  · rw [decide_eq_true h] at hb
    subst hb
    rw [if_pos h]
    refine Ev.step (f := fun _ => some (([] : List Int), 2)) (fun k => ?_) (Ev.now _)
    simp only [vint_Fixed.j0]
    rw [if_pos trivial]
  · rw [decide_eq_false h] at hb
    subst hb
    rw [if_neg h]
    refine Ev.step (fun k => ?_) (fixed_l0 n w hw _ 0 rfl (by omega))
    simp only [vint_Fixed.j0]
    rw [if_neg (by decide)]
    rfl

theorem fixed_ev (n w : Int) (hn : 0 ≤ n ∧ n < 18446744073709551616) : Ev (fun k => vint_Fixed.f k n w) (fixedS n w) := by
  unfold fixedS vint_Fixed.f
  by_cases h1 : w < 1
  · rw [if_pos h1]
    refine Ev.congr (f := fun k => vint_Fixed.j0 k n w true) (fun k => by rw [if_pos h1]) (Ev.step (f := fun _ => some (([] : List Int), 2)) (fun k => ?_) (Ev.now _))
    simp only [vint_Fixed.j0]
    rw [if_pos trivial]
  · rw [if_neg h1]
    by_cases h2 : w > 8
    · rw [if_pos h2]
      refine Ev.congr (f := fun k => vint_Fixed.j0 k n w true) (fun k => by rw [if_neg h1, if_pos h2]) (Ev.step (f := fun _ => some (([] : List Int), 2)) (fun k => ?_) (Ev.now _))
      simp only [vint_Fixed.j0]
      rw [if_pos trivial]
    · rw [if_neg h2]
      obtain ⟨v, rfl⟩ := Int.eq_ofNat_of_zero_le (show 0 ≤ w by omega)
      rw [Int.toNat_natCast]
      have hw' : 0 ≤ wrap64 (8 * (v : Int)) := by rw [w64 (by omega) (by omega)]; omega
      by_cases h3 : v < 8
      · refine Ev.congr (fun k => ?_) (fixed_j0 n v (by omega) (by omega) hn _ rfl)
        rw [if_neg h1, if_neg h2, if_pos (by omega), if_pos hw', shr8 (by omega)]
      · obtain rfl : v = 8 := by omega
        refine Ev.congr (fun k => ?_) (fixed_j0 n 8 (by omega) (by omega) hn false ?_)
        · rw [if_neg h1, if_neg h2, if_neg (by omega)]
        · have : (256 : Int) ^ 8 = 18446744073709551616 := by decide
          rw [this, Int.ediv_eq_zero_of_lt hn.1 hn.2]
          rfl

theorem rfixed_l0 (n : Int) (hn : 0 ≤ n ∧ n < 18446744073709551616) (w : Nat) (hw : w ≤ 8) : ∀ (d i : Nat), w - i = d → i ≤ w → Ev (fun k => lapidaryref01_Fixed.l0 k (n / 256 ^ i) (w : Int) (le n i) (i : Int)) (if n / 256 ^ w > 0 then ([], 2) else (le n w, 0)) := by
  intro d
  induction d with
  | zero =>
    intro i hd hi
    obtain rfl : i = w := by omega
    by_cases h : n / 256 ^ i > 0
    · rw [if_pos h]
      refine Ev.step (f := fun _ => some (([] : List Int), 2)) (fun k => ?_) (Ev.now _)
      simp only [lapidaryref01_Fixed.l0]
      rw [if_neg (by omega), if_pos h]
    · rw [if_neg h]
      refine Ev.step (f := fun _ => some (le n i, 0)) (fun k => ?_) (Ev.now _)
      simp only [lapidaryref01_Fixed.l0]
      rw [if_neg (by omega), if_neg h]
  | succ d ih =>
    intro i hd hi
    have hl := le_len i n
    have hp := pow256_pos i
    have hq0 : 0 ≤ n / 256 ^ i := Int.ediv_nonneg hn.1 (by omega)
    have hq1 : n / 256 ^ i < 18446744073709551616 := Int.lt_of_le_of_lt (Int.ediv_le_self _ hn.1) hn.2
    have e1 : IntKind.u64.wrap (Int.tdiv (n / 256 ^ i) 256) = n / 256 ^ (i + 1) := by
      rw [Int.tdiv_eq_ediv_of_nonneg hq0, u64 (by omega) (by omega), Int.ediv_ediv, if_neg (by omega), Int.sub_zero, pow256_succ, Int.mul_comm]
    have e2 : Int.tmod (n / 256 ^ i) 256 % 256 = n / 256 ^ i % 256 := by
      rw [Int.tmod_eq_emod_of_nonneg hq0, Int.emod_emod]
    refine Ev.step (fun k => ?_) (ih (i + 1) (by omega) (by omega))
    simp only [lapidaryref01_Fixed.l0]
    rw [if_pos (by omega), if_pos (by omega), e1, e2, ← le_snoc, w64 (x := (i : Int) + 1) (by omega) (by omega)]
    rfl

theorem rfixed_ev (n w : Int) (hn : 0 ≤ n ∧ n < 18446744073709551616) : Ev (fun k => lapidaryref01_Fixed.f k n w) (fixedS n w) := by
  unfold fixedS lapidaryref01_Fixed.f
  by_cases h1 : w < 1
  · rw [if_pos h1]
    refine Ev.congr (f := fun k => lapidaryref01_Fixed.j0 k n w true) (fun k => by rw [if_pos h1]) (Ev.step (f := fun _ => some (([] : List Int), 2)) (fun k => ?_) (Ev.now _))
    simp only [lapidaryref01_Fixed.j0]
    rw [if_pos trivial]
  · rw [if_neg h1]
    by_cases h2 : w > 8
    · rw [if_pos h2]
      refine Ev.congr (f := fun k => lapidaryref01_Fixed.j0 k n w true) (fun k => by rw [if_neg h1, decide_eq_true h2]) (Ev.step (f := fun _ => some (([] : List Int), 2)) (fun k => ?_) (Ev.now _))
      simp only [lapidaryref01_Fixed.j0]
      rw [if_pos trivial]
    · rw [if_neg h2]
      obtain ⟨v, rfl⟩ := Int.eq_ofNat_of_zero_le (show 0 ≤ w by omega)
      rw [Int.toNat_natCast]
      have := rfixed_l0 n hn v (by omega) _ 0 rfl (by omega)
      rw [Int.pow_zero, Int.ediv_one] at this
      refine Ev.congr (f := fun k => lapidaryref01_Fixed.j0 k n v false) (fun k => by rw [if_neg h1, decide_eq_false h2]) (Ev.step (fun k => ?_) this)
      simp only [lapidaryref01_Fixed.j0]
      rw [if_neg (by decide)]
      rfl

/-! ### Field -/
def fieldS (l : List Int) (a w : Int) : Int × Int := if w < 1 then (0, 2) else if w > 8 then (0, 2) else if a < 0 then (0, 2) else if a > (l.length : Int) - w then (0, 10) else (valB ((l.drop a.toNat).take w.toNat), 0)

theorem or_shl8 {i : Nat} (hi : i ≤ 7) {n d : Int} (h0 : 0 ≤ n) (h1 : n < 256 ^ i) (hd0 : 0 ≤ d) (hd1 : d < 256) :
    Go.bits .or .u64 n (shl .u64 (IntKind.u64.wrap d) (wrap64 (8 * (i : Int)))) = n + d * 256 ^ i := by
  have e : min (wrap64 (8 * (i : Int))).toNat IntKind.u64.bits = 8 * i := by
    rw [w64 (by omega) (by omega)]
    show min _ 64 = _
    omega
  have ep : (2 : Int) ^ (8 * i) = 256 ^ i := by rw [Int.pow_mul]; rfl
  have hp : (256 : Int) ^ i ≤ 256 ^ 7 := pow256_le hi
  have h8 : (256 : Int) ^ 7 = 72057594037927936 := by decide
  have hpp := pow256_pos i
  have hle : d * 256 ^ i ≤ 255 * 256 ^ i := Int.mul_le_mul_of_nonneg_right (by omega) (by omega)
  have hlt : d * 256 ^ i < 18446744073709551616 := by omega
  have hnn : 0 ≤ d * 256 ^ i := Int.mul_nonneg hd0 (by omega)
  unfold shl
  rw [e, ep, u64 (x := d) (by omega) (by omega), u64 hnn hlt]
  exact bits_join_low .u64 64 (by decide) wraps_u64 (8 * i) n (d * 256 ^ i) h0 (by rw [ep]; exact h1) (by omega) hnn (by rw [ep]; exact Int.mul_emod_left ..) (by omega)

theorem field_l0 (l : List Int) (hb : ∀ c ∈ l, 0 ≤ c ∧ c < 256) (hl : l.length ≤ 1000000000000) (a w : Nat) (hw : w ≤ 8) (ha : a + w ≤ l.length) : ∀ (d i : Nat), w - i = d → i ≤ w →
    Ev (fun k => vint_Field.l0 k l (a : Int) (valB ((l.drop a).take i)) (w : Int) (i : Int)) (valB ((l.drop a).take w), 0) := by
  intro d
  induction d with
  | zero =>
    intro i hd hi
    obtain rfl : i = w := by omega
    refine Ev.step (f := fun _ => some (valB ((l.drop a).take i), 0)) (fun k => ?_) (Ev.now _)
    simp only [vint_Field.l0]
    rw [if_neg (by omega)]
  | succ d ih =>
    intro i hd hi
    have hwa : wrap64 ((a : Int) + i) = (a : Int) + i := w64 (by omega) (by omega)
    have hc1 : (0 : Int) ≤ (a : Int) + i := by omega
    have hc2 : (a : Int) + i < (l.length : Int) := by omega
    have hwi : wrap64 ((i : Int) + 1) = ((i + 1 : Nat) : Int) := w64 (by omega) (by omega)
    have hlt2 : (i : Int) < (w : Int) := by omega
    have hw' : 0 ≤ wrap64 (8 * (i : Int)) := by rw [w64 (by omega) (by omega)]; omega
    have hi7 : i ≤ 7 := by omega
    have hih := ih (i + 1) (by omega) (by omega)
    obtain ⟨c, cs, hcs⟩ : ∃ c cs, (l.drop a).drop i = c :: cs := by
      rcases hd' : (l.drop a).drop i with _ | ⟨c, cs⟩
      · have := drop_nil hd'; rw [List.length_drop] at this; omega
      · exact ⟨c, cs, rfl⟩
    obtain ⟨hlt, hdr, ht, _⟩ := drop_cons hcs
    have hbd : ∀ c ∈ l.drop a, 0 ≤ c ∧ c < 256 := fun c hc => hb c (List.mem_of_mem_drop hc)
    have hc : 0 ≤ c ∧ c < 256 := hbd c (by have : c ∈ (l.drop a).drop i := by rw [hcs]; exact List.mem_cons_self ..
                                           exact List.mem_of_mem_drop this)
    have hlen : ((l.drop a).take i).length = i := by rw [List.length_take]; omega
    have hr := valB_range ((l.drop a).take i) (fun c hc => hbd c (List.mem_of_mem_take hc))
    rw [hlen] at hr
    have hor := or_shl8 (i := i) hi7 hr.1 hr.2 hc.1 hc.2
    have hv : valB ((l.drop a).take (i + 1)) = valB ((l.drop a).take i) + c * 256 ^ i := by rw [ht, valB_snoc, hlen]
    clear hr
    refine Ev.step (fun k => ?_) hih
    simp only [vint_Field.l0]
    rw [if_pos hlt2, hwa, if_pos hc1, if_pos hc2, if_pos hw', rd_drop hcs, hor, ← hv, hwi]

theorem field_ev (l : List Int) (a w : Int) (hb : ∀ c ∈ l, 0 ≤ c ∧ c < 256) (hl : l.length ≤ 1000000000000) : Ev (fun k => vint_Field.f k l a w) (fieldS l a w) := by
  unfold fieldS vint_Field.f
  have hbad : Ev (fun k => vint_Field.j0 k l a w true) (0, 2) := by
    refine Ev.step (f := fun _ => some (0, 2)) (fun k => ?_) (Ev.now _)
    simp only [vint_Field.j0]
    rw [if_pos trivial]
  by_cases h1 : w < 1
  · rw [if_pos h1]
    exact Ev.congr (fun k => by rw [if_pos h1]) hbad
  · rw [if_neg h1]
    by_cases h2 : w > 8
    · rw [if_pos h2]
      exact Ev.congr (fun k => by rw [if_neg h1, if_pos h2]) hbad
    · rw [if_neg h2]
      by_cases h3 : a < 0
      · rw [if_pos h3]
        exact Ev.congr (fun k => by rw [if_neg h1, if_neg h2, decide_eq_true h3]) hbad
      · rw [if_neg h3]
        have hw : wrap64 ((l.length : Int) - w) = (l.length : Int) - w := w64 (by omega) (by omega)
        refine Ev.congr (f := fun k => vint_Field.j0 k l a w false) (fun k => by rw [if_neg h1, if_neg h2, decide_eq_false h3]) ?_
        by_cases h4 : a > (l.length : Int) - w
        · rw [if_pos h4]
          refine Ev.step (f := fun _ => some (0, 10)) (fun k => ?_) (Ev.now _)
          simp only [vint_Field.j0]
          rw [if_neg (by decide), hw, if_pos h4]
        · rw [if_neg h4]
          have := field_l0 l hb hl a.toNat w.toNat (by omega) (by omega) _ 0 rfl (by omega)
          rw [show ((a.toNat : Nat) : Int) = a by omega, show ((w.toNat : Nat) : Int) = w by omega] at this
          refine Ev.step (fun k => ?_) this
          simp only [vint_Field.j0]
          rw [if_neg (by decide), hw, if_neg h4]
          rfl

theorem rfield_l0 (l : List Int) (hb : ∀ c ∈ l, 0 ≤ c ∧ c < 256) (hl : l.length ≤ 1000000000000) (a w : Nat) (hw : w ≤ 8) (ha : a + w ≤ l.length) : ∀ (j : Nat) (acc : Int), j ≤ w → 0 ≤ acc → acc * 256 ^ j + valB ((l.drop a).take j) < 18446744073709551616 →
    Ev (fun k => lapidaryref01_Field.l0 k l (a : Int) acc ((j : Int) - 1)) (acc * 256 ^ j + valB ((l.drop a).take j), 0) := by
  intro j
  induction j with
  | zero =>
    intro acc hj h0 hlt
    refine Ev.step (f := fun _ => some (acc, 0)) (fun k => ?_) (by simp [valB]; exact Ev.now _)
    simp only [lapidaryref01_Field.l0]
    rw [if_neg (by omega)]
  | succ j ih =>
    intro acc hj h0 hlt
    have hwa : wrap64 ((a : Int) + j) = (a : Int) + j := w64 (by omega) (by omega)
    have hc1 : (0 : Int) ≤ (a : Int) + j := by omega
    have hc2 : (a : Int) + j < (l.length : Int) := by omega
    have hc3 : (j : Int) ≥ 0 := by omega
    have hwj : wrap64 ((j : Int) - 1) = (j : Int) - 1 := w64 (by omega) (by omega)
    have hjw : j ≤ w := by omega
    obtain ⟨c, cs, hcs⟩ : ∃ c cs, (l.drop a).drop j = c :: cs := by
      rcases hd' : (l.drop a).drop j with _ | ⟨c, cs⟩
      · have := drop_nil hd'; rw [List.length_drop] at this; omega
      · exact ⟨c, cs, rfl⟩
    obtain ⟨hlt', hdr, ht, _⟩ := drop_cons hcs
    have hbd : ∀ c ∈ l.drop a, 0 ≤ c ∧ c < 256 := fun c hc => hb c (List.mem_of_mem_drop hc)
    have hc : 0 ≤ c ∧ c < 256 := hbd c (by have : c ∈ (l.drop a).drop j := by rw [hcs]; exact List.mem_cons_self ..
                                           exact List.mem_of_mem_drop this)
    have hlen : ((l.drop a).take j).length = j := by rw [List.length_take]; omega
    have hp := pow256_pos j
    have hv := (valB_range ((l.drop a).take j) (fun c hc => hbd c (List.mem_of_mem_take hc))).1
    have hsum : acc * 256 ^ (j + 1) + valB ((l.drop a).take (j + 1)) = (acc * 256 + c) * 256 ^ j + valB ((l.drop a).take j) := by
      rw [ht, valB_snoc, hlen, pow256_succ, Int.add_mul, Int.mul_assoc]
      omega
    rw [hsum] at hlt ⊢
    have hnn : 0 ≤ acc * 256 + c := by omega
    have hle : acc * 256 + c ≤ (acc * 256 + c) * 256 ^ j := by
      have := Int.mul_le_mul_of_nonneg_left (show (1 : Int) ≤ 256 ^ j by omega) hnn
      omega
    have e1 : ((j + 1 : Nat) : Int) - 1 = (j : Int) := by omega
    have e2 : IntKind.u64.wrap ((IntKind.u64.wrap (acc * 256)) + (IntKind.u64.wrap c)) = acc * 256 + c := by
      rw [u64 (x := acc * 256) (by omega) (by omega), u64 (x := c) (by omega) (by omega), u64 hnn (by omega)]
    refine Ev.step (fun k => ?_) (ih (acc * 256 + c) hjw hnn hlt)
    simp only [lapidaryref01_Field.l0]
    rw [e1, if_pos hc3, hwa, if_pos hc1, if_pos hc2, rd_drop hcs, e2, hwj]

theorem rfield_ev (l : List Int) (a w : Int) (hb : ∀ c ∈ l, 0 ≤ c ∧ c < 256) (hl : l.length ≤ 1000000000000) : Ev (fun k => lapidaryref01_Field.f k l a w) (fieldS l a w) := by
  unfold fieldS lapidaryref01_Field.f
  have hbad : Ev (fun k => lapidaryref01_Field.j0 k l a w true) (0, 2) := by
    refine Ev.step (f := fun _ => some (0, 2)) (fun k => ?_) (Ev.now _)
    simp only [lapidaryref01_Field.j0]
    rw [if_pos trivial]
  by_cases h1 : w < 1
  · rw [if_pos h1]
    exact Ev.congr (fun k => by rw [if_pos h1]) hbad
  · rw [if_neg h1]
    by_cases h2 : w > 8
    · rw [if_pos h2]
      exact Ev.congr (fun k => by rw [if_neg h1, if_pos h2]) hbad
    · rw [if_neg h2]
      by_cases h3 : a < 0
      · rw [if_pos h3]
        exact Ev.congr (fun k => by rw [if_neg h1, if_neg h2, decide_eq_true h3]) hbad
      · rw [if_neg h3]
        have hw : wrap64 ((l.length : Int) - w) = (l.length : Int) - w := w64 (by omega) (by omega)
        refine Ev.congr (f := fun k => lapidaryref01_Field.j0 k l a w false) (fun k => by rw [if_neg h1, if_neg h2, decide_eq_false h3]) ?_
        have hsh : Ev (fun k => lapidaryref01_Field.j1 k l a w true) (0, 10) := by
          refine Ev.step (f := fun _ => some (0, 10)) (fun k => ?_) (Ev.now _)
          simp only [lapidaryref01_Field.j1]
          rw [if_pos trivial]
        by_cases h5 : (l.length : Int) < w
        · rw [if_pos (by omega)]
          refine Ev.step (fun k => ?_) hsh
          simp only [lapidaryref01_Field.j0]
          rw [if_neg (by decide), if_pos h5]
        · by_cases h4 : a > (l.length : Int) - w
          · rw [if_pos h4]
            refine Ev.step (fun k => ?_) hsh
            simp only [lapidaryref01_Field.j0]
            rw [if_neg (by decide), if_neg h5, hw, decide_eq_true h4]
          · rw [if_neg h4]
            have hr := valB_range ((l.drop a.toNat).take w.toNat) (fun c hc => hb c (List.mem_of_mem_drop (List.mem_of_mem_take hc)))
            have hlen : ((l.drop a.toNat).take w.toNat).length = w.toNat := by rw [List.length_take, List.length_drop]; omega
            rw [hlen] at hr
            have h8 : (256 : Int) ^ w.toNat ≤ 256 ^ 8 := pow256_le (show w.toNat ≤ 8 by omega)
            have h9 : (256 : Int) ^ 8 = 18446744073709551616 := by decide
            have := rfield_l0 l hb hl a.toNat w.toNat (by omega) (by omega) w.toNat 0 (by omega) (by omega) (by omega)
            rw [Int.zero_mul, Int.zero_add, show ((a.toNat : Nat) : Int) = a by omega, show ((w.toNat : Nat) : Int) = w by omega] at this
            have hw1 : wrap64 (w - 1) = w - 1 := w64 (by omega) (by omega)
            refine Ev.step (f := fun k => lapidaryref01_Field.j1 k l a w false) (fun k => ?_) (Ev.step (fun k => ?_) this)
            · simp only [lapidaryref01_Field.j0]
              rw [if_neg (by decide), if_neg h5, hw, decide_eq_false h4]
            · simp only [lapidaryref01_Field.j1]
              rw [if_neg (by decide), hw1]

theorem vintFields : lapidarylaw01_VintFields.Pure := by
  intro a0 a1 l2 a3 h0 h1 hm hr hw h3
  have h0 := wf_u64 h0
  have hb := bytes_of hw
  apply Ev.rounds
  by_cases h : (l2.length : Int) > 4000
  · refine Ev.congr (fun k => ?_) known_then
    unfold lapidarylaw01_VintFields.f
    rw [if_pos h]
  · simp only [lapidarylaw01_VintFields.f, if_neg h]
    refine Ev.bind (fixed_ev a0 a1 h0) ?_
    refine Ev.bind (rfixed_ev a0 a1 h0) ?_
    refine Ev.bind (field_ev l2 a3 a1 hb (by omega)) ?_
    refine Ev.bind (rfield_ev l2 a3 a1 hb (by omega)) ?_
    refine Ev.bind (same_ev rfl) ?_
    refine Ev.congr (fun k => ?_) known_then
    rw [if_pos rfl, if_pos rfl, if_pos rfl, if_pos rfl]

end Go.Proofs.Ytgphhcakkoaipaa.VB
