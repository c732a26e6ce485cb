/- The plain laws VintLong and VintInts. -/
import Derived.Test.YtgphhcakkoaipaaVintLawsA
import Derived.Test.YtgphhcakkoaipaaPVintx6
namespace Go.Proofs.Ytgphhcakkoaipaa.VB
open Go Go.Lib Go.RowKit Go.Proofs.Ytgphhcakkoaipaa.VM Go.Proofs.Ytgphhcakkoaipaa.PVint Go.Proofs.YtgphhcakkoaipaaW.PrintWords Go.Proofs.YtgphhcakkoaipaaW.PrintLast Go.Proofs.YtgphhcakkoaipaaW.PrintMore
set_option linter.unusedVariables false
set_option linter.unusedSimpArgs false

theorem rzig_f {n : Int} (h : -9223372036854775808 ≤ n ∧ n < 9223372036854775808) : lapidaryref01_Zig.f n = some (zig n) := by
  unfold lapidaryref01_Zig.f zig
  by_cases h2 : n ≥ 0
  · rw [if_pos h2, if_pos h2]; congr 1; rw [IntKind.wrap_u64, IntKind.wrap_u64]; omega
  · rw [if_neg h2, if_neg (by omega)]; congr 1; rw [IntKind.wrap_u64, IntKind.wrap_u64, IntKind.wrap_u64]; unfold wrap64; omega

/-! ### VintLong -/
theorem shr7 {n : Nat} {i : Nat} (hi : i ≤ 9) : shr .u64 (n : Int) (wrap64 (7 * (i : Int))) = ((n / 128 ^ i : Nat) : Int) := by
  have e : min (wrap64 (7 * (i : Int))).toNat IntKind.u64.bits = 7 * i := by
    rw [w64 (by omega) (by omega)]
    show min _ 64 = _
    omega
  have ep : (2 : Int) ^ (7 * i) = ((128 ^ i : Nat) : Int) := by rw [Int.pow_mul]; push_cast; rfl
  unfold shr
  rw [e, ep]
  rfl

theorem long_l0 (n m : Nat) (hn : n < 18446744073709551616) (hm : m < 18446744073709551616) : ∀ (d i : Nat), (enc n).length - i = d → 1 ≤ i → i ≤ (enc n).length → Ev (fun k => lapidarylaw01_VintLong.l0 k (n : Int) (m : Int) (enc n) (enc m) (i : Int)) true := by
  have hlen := enc_len10 hn
  have hfin : ∀ (k : Nat), (if True then (if (n : Int) > (m : Int) then (if (n : Int) < (m : Int) then ((lapidarylaw01_known.f k).bind fun t231 => (some t231)) else (if ((enc n).length : Int) ≥ ((enc m).length : Int) then ((lapidarylaw01_known.f k).bind fun t232 => (some t232)) else (some false))) else (if ((enc n).length : Int) ≤ ((enc m).length : Int) then (if (n : Int) < (m : Int) then ((lapidarylaw01_known.f k).bind fun t233 => (some t233)) else (if ((enc n).length : Int) ≥ ((enc m).length : Int) then ((lapidarylaw01_known.f k).bind fun t234 => (some t234)) else (some false))) else (some false))) else (some false)) = (lapidarylaw01_known.f k).bind fun t => (some t) := by
    intro k
    rw [if_pos trivial]
    by_cases h1 : n > m
    · have := enc_len_mono m n (by omega)
      rw [if_pos (by omega), if_neg (by omega), if_pos (by omega)]
    · have := enc_len_mono n m (by omega)
      rw [if_neg (by omega), if_pos (by omega)]
      by_cases h2 : n < m
      · rw [if_pos (by omega)]
      · have := enc_len_mono m n (by omega)
        rw [if_neg (by omega), if_pos (by omega)]
  intro d
  induction d with
  | zero =>
    intro i hd h1 hi
    obtain rfl : i = (enc n).length := by omega
    have hw : 0 ≤ wrap64 (7 * ((enc n).length : Int)) := by rw [w64 (by omega) (by omega)]; omega
    refine Ev.step (fun k => ?_) known_then
    simp only [lapidarylaw01_VintLong.l0]
    rw [if_pos hw]
    by_cases h10 : (enc n).length = 10
    · by_cases hs : (shr .u64 (n : Int) (wrap64 (7 * ((enc n).length : Int)))) > 0
      · rw [if_pos hs, if_neg (by omega), hfin]
      · rw [if_neg hs, hfin]
    · have hq := (enc_len_iff ((enc n).length - 1) n).1 (by omega)
      rw [show (enc n).length - 1 + 1 = (enc n).length by omega] at hq
      rw [shr7 (by omega), hq, if_neg (by omega), hfin]
  | succ d ih =>
    intro i hd h1 hi
    have hw : 0 ≤ wrap64 (7 * (i : Int)) := by rw [w64 (by omega) (by omega)]; omega
    have hq : 0 < n / 128 ^ i := by
      rcases Nat.eq_zero_or_pos (n / 128 ^ i) with h | h
      · have := (enc_len_iff (i - 1) n).2 (by rw [show i - 1 + 1 = i by omega]; exact h)
        omega
      · exact h
    refine Ev.step (fun k => ?_) (ih (i + 1) (by omega) (by omega) (by omega))
    simp only [lapidarylaw01_VintLong.l0]
    rw [if_pos hw, shr7 (by omega), if_pos (by omega), if_pos (by omega), w64 (x := (i : Int) + 1) (by omega) (by omega)]
    rfl

theorem vintLong : lapidarylaw01_VintLong.Pure := by
  intro a0 a1 h0 h1
  have h0 := wf_u64 h0
  have h1 := wf_u64 h1
  obtain ⟨n, rfl⟩ := Int.eq_ofNat_of_zero_le h0.1
  obtain ⟨m, rfl⟩ := Int.eq_ofNat_of_zero_le h1.1
  apply Ev.rounds
  have hp := enc_pos n
  exact Ev.bind (put_one n (by omega)) (Ev.bind (put_one m (by omega)) (long_l0 n m (by omega) (by omega) _ 1 rfl (by omega) (by omega)))

/-! ### VintInts -/
def getIntS (l : List Int) (a : Int) : Int × Int × Int := if (getS l a).2.2 = 0 then (zag (getS l a).1, (getS l a).2.1, 0) else (0, 0, (getS l a).2.2)

theorem getInt_ev (l : List Int) (a : Int) (hb : ∀ c ∈ l, 0 ≤ c ∧ c < 256) (hl : l.length ≤ 100000000000000) : Ev (fun k => vint_GetInt.f k l a) (getIntS l a) := by
  refine Ev.bind (get_ev l a hb hl) ?_
  unfold getIntS
  by_cases h : (getS l a).2.2 = 0
  · refine Ev.congr (f := fun _ => some _) (fun k => ?_) (Ev.now _)
    have hk := getS_ok (l := l) (a := a) (n := (getS l a).1) (e := (getS l a).2.1) hb (by rw [← h])
    rw [if_pos h, if_pos h, zag_f ⟨hk.2.2.2.1.1, hk.2.2.2.1.2⟩]
    rfl
  · refine Ev.congr (f := fun _ => some _) (fun k => ?_) (Ev.now _)
    rw [if_neg h, if_neg h]

theorem rgetInt_ev (l : List Int) (a : Int) (hb : ∀ c ∈ l, 0 ≤ c ∧ c < 256) (hl : l.length ≤ 100000000000000) : Ev (fun k => lapidaryref01_GetInt.f k l a) (getIntS l a) := by
  refine Ev.bind (rget_ev l a hb hl) ?_
  unfold getIntS
  by_cases h : (getS l a).2.2 = 0
  · refine Ev.congr (f := fun _ => some _) (fun k => ?_) (Ev.now _)
    have hk := getS_ok (l := l) (a := a) (n := (getS l a).1) (e := (getS l a).2.1) hb (by rw [← h])
    rw [if_pos h, if_pos h, rzag_f ⟨hk.2.2.2.1.1, hk.2.2.2.1.2⟩]
    rfl
  · refine Ev.congr (f := fun _ => some _) (fun k => ?_) (Ev.now _)
    rw [if_neg h, if_neg h]

theorem putInt_ev {n : Int} (h : -9223372036854775808 ≤ n ∧ n < 9223372036854775808) : Ev (fun k => vint_PutInt.f k n) (enc (zig n).toNat) := by
  have hz := zig_range h.1 h.2
  have := put_one (zig n).toNat (by omega)
  rw [show (((zig n).toNat : Nat) : Int) = zig n by omega] at this
  refine Ev.congr (fun k => ?_) (Ev.bind this (Ev.now _))
  unfold vint_PutInt.f
  rw [zig_f h]
  rfl

theorem rputInt_ev {n : Int} (h : -9223372036854775808 ≤ n ∧ n < 9223372036854775808) : Ev (fun k => lapidaryref01_PutInt.f k n) (enc (zig n).toNat) := by
  have hz := zig_range h.1 h.2
  have := rput_ev (zig n).toNat (by omega)
  rw [show (((zig n).toNat : Nat) : Int) = zig n by omega] at this
  refine Ev.congr (fun k => ?_) (Ev.bind this (Ev.now _))
  unfold lapidaryref01_PutInt.f
  rw [rzig_f h]
  rfl

theorem vintInts : lapidarylaw01_VintInts.Pure := by
  intro a0 l1 a2 h0 hm hr hw h2
  have h0 := wf_i64 h0
  have hb := bytes_of hw
  apply Ev.rounds
  by_cases h : (l1.length : Int) > 4000
  · refine Ev.congr (fun k => ?_) known_then
    unfold lapidarylaw01_VintInts.f
    rw [if_pos h]
  · simp only [lapidarylaw01_VintInts.f, if_neg h]
    refine Ev.bind (getInt_ev l1 a2 hb (by omega)) ?_
    refine Ev.bind (rgetInt_ev l1 a2 hb (by omega)) ?_
    refine Ev.bind (putInt_ev h0) ?_
    refine Ev.bind (rputInt_ev h0) ?_
    refine Ev.bind (same_ev rfl) ?_
    refine Ev.congr (fun k => ?_) known_then
    rw [if_pos rfl, zig_f h0, rzig_f h0]
    simp only [Option.bind_some]
    rw [if_pos trivial, if_pos trivial, if_pos trivial, if_pos trivial]

end Go.Proofs.Ytgphhcakkoaipaa.VB
