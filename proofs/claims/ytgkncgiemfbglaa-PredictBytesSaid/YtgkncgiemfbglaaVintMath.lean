/- Plain facts on numbers in seven bits to a byte, zigzag numbers and fixed fields; no program in sight. -/
import Derived.Lib.Zigzag
import Derived.Lib.VarintBits
import Derived.Laws.Bits64b
import Derived.OpenShut
namespace Go.Proofs.Ytgkncgiemfbglaa.VM
open Go Go.Lib Go.RowKit
set_option linter.unusedVariables false
set_option linter.unusedSimpArgs false

/-- The bytes of a number. -/
def enc (n : Nat) : List Int := if n < 128 then [(n : Int)] else ((n : Int) % 128 + 128) :: enc (n / 128)
termination_by n
decreasing_by omega

theorem enc_small {n : Nat} (h : n < 128) : enc n = [(n : Int)] := by rw [enc, if_pos h]
theorem enc_big {n : Nat} (h : ¬ n < 128) : enc n = ((n : Int) % 128 + 128) :: enc (n / 128) := by rw [enc, if_neg h]

theorem enc_ne (n : Nat) : enc n ≠ [] := by
  by_cases h : n < 128
  · rw [enc_small h]; simp
  · rw [enc_big h]; simp

theorem enc_pos (n : Nat) : 0 < (enc n).length := List.length_pos_iff.2 (enc_ne n)

theorem enc_len (j : Nat) : ∀ n : Nat, n < 128 ^ (j + 1) → (enc n).length ≤ j + 1 := by
  induction j with
  | zero => intro n h; rw [enc_small (by simpa using h)]; simp
  | succ j ih =>
    intro n h
    by_cases hn : n < 128
    · rw [enc_small hn]; simp
    · rw [enc_big hn, List.length_cons]
      have := ih (n / 128) (by rw [Nat.div_lt_iff_lt_mul (by decide)]; rw [Nat.pow_succ] at h; exact h)
      omega

theorem enc_len10 {n : Nat} (h : n < 18446744073709551616) : (enc n).length ≤ 10 :=
  enc_len 9 n (Nat.lt_of_lt_of_le h (by decide))

theorem enc_byte (n : Nat) : ∀ c ∈ enc n, 0 ≤ c ∧ c < 256 := by
  induction n using Nat.strongRecOn with
  | _ n ih =>
    intro c hc
    by_cases h : n < 128
    · rw [enc_small h] at hc
      simp only [List.mem_singleton] at hc
      omega
    · rw [enc_big h] at hc
      rcases List.mem_cons.1 hc with rfl | hc
      · omega
      · exact ih (n / 128) (by omega) c hc

/-- What bytes come to, the lowest seven bits first. -/
def val : List Int → Int
  | [] => 0
  | c :: cs => c % 128 + 128 * val cs

theorem val_nonneg : ∀ l : List Int, 0 ≤ val l
  | [] => by simp [val]
  | c :: cs => by
    have := val_nonneg cs
    have h := Int.emod_nonneg c (show (128 : Int) ≠ 0 by decide)
    simp only [val]
    omega

theorem pow128_succ (i : Nat) : (128 : Int) ^ (i + 1) = 128 * 128 ^ i := by rw [Int.pow_succ]; omega
theorem pow128_pos (i : Nat) : (0 : Int) < 128 ^ i := Int.pow_pos (by decide)

theorem val_lt : ∀ l : List Int, val l < 128 ^ l.length
  | [] => by simp [val]
  | c :: cs => by
    have := val_lt cs
    have h := Int.emod_lt_of_pos c (show (0 : Int) < 128 by decide)
    rw [List.length_cons, pow128_succ]
    simp only [val]
    omega

theorem val_snoc : ∀ (l : List Int) (c : Int), val (l ++ [c]) = val l + c % 128 * 128 ^ l.length
  | [], c => by simp [val]
  | d :: l, c => by
    have h := val_snoc l c
    rw [List.cons_append, List.length_cons, pow128_succ]
    simp only [val]
    rw [h]
    have : c % 128 * (128 * 128 ^ l.length) = 128 * (c % 128 * 128 ^ l.length) := by
      rw [Int.mul_left_comm]
    omega

/-- Reading on, from the i-th byte: the number, the place behind it, what is wrong. -/
def scan (xs : List Int) (a : Nat) : List Int → Nat → Int × Int × Int
  | [], _ => (0, 0, 10)
  | c :: cs, i => if i = 9 ∧ c > 1 then (0, 0, 11) else if c < 128 then (if c = 0 ∧ 0 < i then (0, 0, 11) else (val (xs.take (i + 1)), (a : Int) + i + 1, 0)) else scan xs a cs (i + 1)

/-- What stands at a place: the number, the place behind it, what is wrong. -/
def getS (l : List Int) (a : Int) : Int × Int × Int := if a < 0 then (0, 0, 2) else if a > (l.length : Int) then (0, 0, 2) else scan (l.drop a.toNat) a.toNat (l.drop a.toNat) 0

theorem drop_cons {xs cs : List Int} {c : Int} {i : Nat} (h : xs.drop i = c :: cs) : i < xs.length ∧ xs.drop (i + 1) = cs ∧ xs.take (i + 1) = xs.take i ++ [c] ∧ xs.getD i 0 = c := by
  have hi : i < xs.length := by
    rcases Nat.lt_or_ge i xs.length with h' | h'
    · exact h'
    · rw [List.drop_eq_nil_of_le h'] at h; cases h
  have hc : xs[i] = c := by
    rw [List.drop_eq_getElem_cons hi] at h
    exact (List.cons.inj h).1
  refine ⟨hi, ?_, ?_, ?_⟩
  · rw [List.drop_eq_getElem_cons hi] at h
    exact (List.cons.inj h).2
  · rw [List.take_succ_eq_append_getElem hi, hc]
  · rw [List.getD_eq_getElem?_getD, List.getElem?_eq_getElem hi, hc]; rfl

theorem drop_nil {xs : List Int} {i : Nat} (h : xs.drop i = []) : xs.length ≤ i := List.drop_eq_nil_iff.1 h

/-! ### There and back -/
theorem enc_val (n : Nat) : val (enc n) = n := by
  induction n using Nat.strongRecOn with
  | _ n ih =>
    by_cases h : n < 128
    · rw [enc_small h]; simp only [val]; omega
    · rw [enc_big h]; simp only [val]; rw [ih (n / 128) (by omega)]; omega

/-- The bytes of a number are read as it, whatever stands behind: from the i-th of its bytes on. -/
theorem scan_enc (xs rest : List Int) (a : Nat) : ∀ (n : Nat) (i : Nat) (pre : List Int), xs = pre ++ enc n ++ rest → pre.length = i → (enc n).length + i ≤ 10 → ((enc n).length + i = 10 → n < 2 ∨ (128 : Int) ^ (9 - i) * 2 > n) → (0 < i → 0 < n) →
    scan xs a (xs.drop i) i = (val (pre ++ enc n), (a : Int) + i + (enc n).length, 0) := by
  intro n
  induction n using Nat.strongRecOn with
  | _ n ih =>
    intro i pre hxs hi hl hb hz
    have hdrop : xs.drop i = enc n ++ rest := by rw [hxs, List.append_assoc, List.drop_append_of_le_length (by omega), List.drop_eq_nil_of_le (by omega)]; rfl
    by_cases h : n < 128
    · have e := enc_small h
      have hlen : (enc n).length = 1 := by rw [e]; rfl
      have htake : xs.take (i + 1) = pre ++ [(n : Int)] := by
        rw [hxs, e, List.append_assoc, List.take_append, List.take_of_length_le (by omega), show i + 1 - pre.length = 1 by omega]
        rfl
      rw [hdrop, e, List.cons_append, scan, if_neg, if_pos (by omega), if_neg, htake]
      · rfl
      · rintro ⟨h0, h1⟩
        have := hz h1
        omega
      · rintro ⟨h9, h1⟩
        have h2 := hb (by omega)
        rw [h9] at h2
        simp at h2
        omega
    · have e := enc_big h
      have hne := enc_pos (n / 128)
      have hlen : (enc n).length = (enc (n / 128)).length + 1 := by rw [e, List.length_cons]
      have hi9 : i ≠ 9 := by intro h9; rw [hlen] at hl; omega
      rw [hdrop, e, List.cons_append, scan, if_neg (by rintro ⟨h9, _⟩; exact hi9 h9), if_neg (by omega)]
      have hxs' : xs = (pre ++ [(n : Int) % 128 + 128]) ++ enc (n / 128) ++ rest := by rw [hxs, e]; simp
      have hdrop' : xs.drop (i + 1) = enc (n / 128) ++ rest := by
        rw [hxs', List.append_assoc, List.drop_append_of_le_length (by simp; omega), List.drop_eq_nil_of_le (by simp; omega)]; rfl
      have := ih (n / 128) (by omega) (i + 1) (pre ++ [(n : Int) % 128 + 128]) hxs' (by simp; omega) (by omega) (by
        intro h10
        right
        rcases hb (by omega) with hb | hb
        · omega
        · have hp : (128 : Int) ^ (9 - i) = 128 * 128 ^ (9 - (i + 1)) := by rw [show 9 - i = 9 - (i + 1) + 1 by omega, pow128_succ]
          rw [hp] at hb
          have hp' := pow128_pos (9 - (i + 1))
          generalize (128 : Int) ^ (9 - (i + 1)) = p at *
          omega) (by intro _; omega)
      rw [hdrop'] at this
      rw [this, List.length_cons]
      refine Prod.ext ?_ (Prod.ext ?_ rfl)
      · show val _ = val _
        rw [List.append_assoc]; rfl
      · show (_ : Int) = _
        push_cast
        omega

theorem getS_enc (n : Nat) (hn : n < 18446744073709551616) (ahead behind : List Int) : getS (ahead ++ enc n ++ behind) (ahead.length : Int) = ((n : Int), (ahead.length : Int) + (enc n).length, 0) := by
  have hle : ¬ ((ahead.length : Int) > ((ahead ++ enc n ++ behind).length : Int)) := by simp only [List.length_append]; push_cast; omega
  have hd : (ahead ++ enc n ++ behind).drop ahead.length = enc n ++ behind := by rw [List.append_assoc, List.drop_append_of_le_length (Nat.le_refl _), List.drop_length]; rfl
  have := scan_enc (enc n ++ behind) behind ahead.length n 0 [] rfl rfl (by have := enc_len10 hn; omega) (by intro _; right; rw [show (128 : Int) ^ (9 - 0) = 9223372036854775808 from by decide]; omega) (by omega)
  rw [getS, if_neg (by omega), if_neg hle, Int.toNat_natCast, hd]
  rw [List.drop_zero] at this
  rw [this]
  refine Prod.ext ?_ (Prod.ext ?_ rfl)
  · show val _ = _
    rw [List.nil_append, enc_val]
  · show (_ : Int) = _
    simp

/-- Bytes that are read as a number begin with its bytes. -/
theorem enc_of_scan (xs : List Int) (a : Nat) (hb : ∀ c ∈ xs, 0 ≤ c ∧ c < 256) : ∀ (cs : List Int) (i : Nat) (n e : Int), xs.drop i = cs → scan xs a cs i = (n, e, 0) → i ≤ 9 →
    ∃ m : Nat, ∃ v : Nat, cs.take m = enc v ∧ 0 < m ∧ m ≤ cs.length ∧ e = (a : Int) + i + m ∧ n = val (xs.take (i + m)) ∧ (0 < i → 0 < v)
  | [], i, n, e, h, hs, hi => by simp [scan] at hs
  | c :: cs, i, n, e, h, hs, hi => by
    obtain ⟨hlt, hd, ht, hg⟩ := drop_cons h
    have hc : 0 ≤ c ∧ c < 256 := hb c (by have : c ∈ xs.drop i := by rw [h]; exact List.mem_cons_self ..
                                          exact List.mem_of_mem_drop this)
    rw [scan] at hs
    by_cases h1 : i = 9 ∧ c > 1
    · rw [if_pos h1] at hs; simp at hs
    · rw [if_neg h1] at hs
      by_cases h2 : c < 128
      · rw [if_pos h2] at hs
        by_cases h3 : c = 0 ∧ 0 < i
        · rw [if_pos h3] at hs; simp at hs
        · rw [if_neg h3] at hs
          simp only [Prod.mk.injEq] at hs
          refine ⟨1, c.toNat, ?_, by omega, by simp, by omega, hs.1.symm, by omega⟩
          rw [enc_small (by omega)]
          simp
          omega
      · rw [if_neg h2] at hs
        have hi' : i ≠ 9 := fun h9 => h1 ⟨h9, by omega⟩
        obtain ⟨m, v, hv, hm, hml, he, hn, hz⟩ := enc_of_scan xs a hb cs (i + 1) n e hd hs (by omega)
        refine ⟨m + 1, v * 128 + (c.toNat - 128), ?_, by omega, by rw [List.length_cons]; omega, by rw [he]; push_cast; omega, by rw [hn, show i + 1 + m = i + (m + 1) by omega], ?_⟩
        · have hv' := hz (by omega)
          rw [enc_big (by omega), List.take_succ_cons, hv, show (v * 128 + (c.toNat - 128)) / 128 = v by omega]
          congr 1
          omega
        · intro _
          have := hz (by omega)
          omega

theorem getS_ok {l : List Int} {a n e : Int} (hb : ∀ c ∈ l, 0 ≤ c ∧ c < 256) (h : getS l a = (n, e, 0)) : 0 ≤ a ∧ a < e ∧ e ≤ l.length ∧ (0 ≤ n ∧ n < 18446744073709551616) ∧ enc n.toNat = (l.drop a.toNat).take (e - a).toNat := by
  rw [getS] at h
  by_cases h1 : a < 0
  · rw [if_pos h1] at h; simp at h
  · rw [if_neg h1] at h
    by_cases h2 : a > (l.length : Int)
    · rw [if_pos h2] at h; simp at h
    · rw [if_neg h2] at h
      have hb' : ∀ c ∈ l.drop a.toNat, 0 ≤ c ∧ c < 256 := fun c hc => hb c (List.mem_of_mem_drop hc)
      obtain ⟨m, v, hv, hm, hml, he, hn, _⟩ := enc_of_scan _ _ hb' _ 0 n e (List.drop_zero ..) h (by omega)
      rw [Nat.zero_add] at hn
      have hnv : n = v := by rw [hn, hv, enc_val]
      have hlen : (enc v).length = m := by rw [← hv, List.length_take]; omega
      rw [List.length_drop] at hml
      -- the number is less than 2^64: it has ten bytes at most, and the tenth is 1 at most
      have hlt : n < 18446744073709551616 := by
        have key : ∀ (xs : List Int) (k : Nat), (∀ c ∈ xs, 0 ≤ c ∧ c < 256) → ∀ (cs : List Int) (i : Nat) (n e : Int), xs.drop i = cs → scan xs k cs i = (n, e, 0) → i ≤ 9 → n < 18446744073709551616 := by
          intro xs k hb cs
          induction cs with
          | nil => intro i n e _ hs _; simp [scan] at hs
          | cons c cs ih =>
            intro i n e h hs hi
            obtain ⟨hlt, hd, ht, hg⟩ := drop_cons h
            have hc : 0 ≤ c ∧ c < 256 := hb c (by have : c ∈ xs.drop i := by rw [h]; exact List.mem_cons_self ..
                                                  exact List.mem_of_mem_drop this)
            rw [scan] at hs
            by_cases h1 : i = 9 ∧ c > 1
            · rw [if_pos h1] at hs; simp at hs
            · rw [if_neg h1] at hs
              by_cases h2 : c < 128
              · rw [if_pos h2] at hs
                by_cases h3 : c = 0 ∧ 0 < i
                · rw [if_pos h3] at hs; simp at hs
                · rw [if_neg h3] at hs
                  simp only [Prod.mk.injEq] at hs
                  rw [← hs.1]
                  rcases Nat.lt_or_ge i 9 with h9 | h9
                  · have h4 := val_lt (xs.take (i + 1))
                    have h5 : (xs.take (i + 1)).length ≤ 9 := by rw [List.length_take]; omega
                    have h6 : (128 : Int) ^ (xs.take (i + 1)).length ≤ 128 ^ 9 := by exact_mod_cast Nat.pow_le_pow_right (show 0 < 128 by decide) h5
                    have h7 : (128 : Int) ^ 9 = 9223372036854775808 := by decide
                    omega
                  · obtain rfl : i = 9 := by omega
                    have hc1 : c ≤ 1 := by
                      rcases Int.lt_or_le 1 c with h' | h'
                      · exact absurd ⟨rfl, h'⟩ h1
                      · exact h'
                    rw [ht, val_snoc]
                    have h4 := val_lt (xs.take 9)
                    have h5 : (xs.take 9).length = 9 := by rw [List.length_take]; omega
                    rw [h5] at h4 ⊢
                    have h7 : (128 : Int) ^ 9 = 9223372036854775808 := by decide
                    rw [h7] at h4 ⊢
                    have : c % 128 = c := by omega
                    rw [this]
                    omega
              · rw [if_neg h2] at hs
                have hi' : i ≠ 9 := fun h9 => h1 ⟨h9, by omega⟩
                exact ih (i + 1) n e hd hs (by omega)
        exact key _ _ hb' _ 0 n e (List.drop_zero ..) h (by omega)
      refine ⟨by omega, by rw [he]; omega, by rw [he]; omega, ⟨by rw [hnv]; omega, hlt⟩, ?_⟩
      rw [show n.toNat = v by omega, ← hv, show (e - a).toNat = m by omega]

/-- Its bytes cut short are missing some. -/
theorem scan_short (xs : List Int) (a : Nat) : ∀ (n : Nat) (i : Nat) (m : Nat), m < (enc n).length → xs.drop i = (enc n).take m → (enc n).length + i ≤ 10 → scan xs a (xs.drop i) i = (0, 0, 10) := by
  intro n
  induction n using Nat.strongRecOn with
  | _ n ih =>
    intro i m hm hx hl
    cases m with
    | zero => rw [hx, List.take_zero]; rfl
    | succ m =>
      by_cases h : n < 128
      · rw [enc_small h] at hm; simp at hm
      · have hlen : (enc n).length = (enc (n / 128)).length + 1 := by rw [enc_big h, List.length_cons]
        have hne := enc_pos (n / 128)
        have hx' := hx
        rw [enc_big h, List.take_succ_cons] at hx
        obtain ⟨_, hd, _, _⟩ := drop_cons hx
        rw [hx, scan, if_neg (by rintro ⟨h9, _⟩; omega), if_neg (by omega), ← hd]
        exact ih (n / 128) (by omega) (i + 1) m (by omega) hd (by omega)

theorem getS_short (n : Nat) (hn : n < 18446744073709551616) (m : Nat) (hm : m < (enc n).length) : getS ((enc n).take m) 0 = (0, 0, 10) := by
  have := scan_short ((enc n).take m) 0 n 0 m hm (List.drop_zero ..) (by have := enc_len10 hn; omega)
  rw [getS, if_neg (by omega), if_neg (by omega)]
  exact this

theorem enc_len_mono (n : Nat) : ∀ m : Nat, n ≤ m → (enc n).length ≤ (enc m).length := by
  induction n using Nat.strongRecOn with
  | _ n ih =>
    intro m h
    by_cases hn : n < 128
    · rw [enc_small hn]; exact enc_pos m
    · rw [enc_big hn, enc_big (show ¬ m < 128 by omega), List.length_cons, List.length_cons]
      have := ih (n / 128) (by omega) (m / 128) (Nat.div_le_div_right h)
      omega

/-- As many bytes as sevens of bits. -/
theorem enc_len_iff (j : Nat) : ∀ n : Nat, (enc n).length ≤ j + 1 ↔ n / 128 ^ (j + 1) = 0 := by
  induction j with
  | zero =>
    intro n
    by_cases hn : n < 128
    · rw [enc_small hn]; simp; omega
    · rw [enc_big hn, List.length_cons]
      have := enc_pos (n / 128)
      simp
      constructor
      · intro h; rw [h] at this; simp at this
      · intro h; omega
  | succ j ih =>
    intro n
    by_cases hn : n < 128
    · rw [enc_small hn]
      simp
      have : 128 ≤ 128 ^ (j + 1 + 1) := by
        rw [Nat.pow_succ]
        exact Nat.le_mul_of_pos_left _ (Nat.pow_pos (by decide))
      omega
    · rw [enc_big hn, List.length_cons, Nat.pow_succ, Nat.mul_comm, ← Nat.div_div_eq_div_mul]
      have := ih (n / 128)
      omega

/-! ### By turns -/
def zig (n : Int) : Int := if 0 ≤ n then 2 * n else -2 * n - 1
def zag (u : Int) : Int := if u % 2 = 0 then u / 2 else -(u / 2) - 1
theorem zag_zig (n : Int) : zag (zig n) = n := by
  unfold zag zig
  by_cases h : 0 ≤ n
  · rw [if_pos h, if_pos (by omega)]; omega
  · rw [if_neg h, if_neg (by omega)]; omega
theorem zig_zag (u : Int) (h : 0 ≤ u) : zig (zag u) = u := by
  unfold zag zig
  by_cases h2 : u % 2 = 0
  · rw [if_pos h2, if_pos (by omega)]; omega
  · rw [if_neg h2, if_neg (by omega)]; omega
theorem zig_range {n : Int} (h0 : -9223372036854775808 ≤ n) (h1 : n < 9223372036854775808) : 0 ≤ zig n ∧ zig n < 18446744073709551616 := by
  unfold zig
  split <;> omega
theorem zag_range {u : Int} (h0 : 0 ≤ u) (h1 : u < 18446744073709551616) : -9223372036854775808 ≤ zag u ∧ zag u < 9223372036854775808 := by
  unfold zag
  split <;> omega

theorem zig_bits {n : Int} (h0 : -9223372036854775808 ≤ n) (h1 : n < 9223372036854775808) :
    Go.bits .xor .u64 (IntKind.u64.wrap ((IntKind.u64.wrap n) * 2)) (IntKind.u64.wrap (n / 9223372036854775808)) = zig n := by
  by_cases h : 0 ≤ n
  · have e1 : IntKind.u64.wrap ((IntKind.u64.wrap n) * 2) = (((2 * n).toNat : Nat) : Int) := by rw [IntKind.wrap_u64, IntKind.wrap_u64]; omega
    have e2 : IntKind.u64.wrap (n / 9223372036854775808) = ((0 : Nat) : Int) := by rw [IntKind.wrap_u64]; omega
    rw [e1, e2, bits_xor_u64_nat _ _ (by omega) (by omega), Nat.xor_zero, zig, if_pos h]
    omega
  · have e1 : IntKind.u64.wrap ((IntKind.u64.wrap n) * 2) = (((2 * n + 18446744073709551616).toNat : Nat) : Int) := by rw [IntKind.wrap_u64, IntKind.wrap_u64]; omega
    have e2 : IntKind.u64.wrap (n / 9223372036854775808) = ((2 ^ 64 - 1 : Nat) : Int) := by
      rw [IntKind.wrap_u64, show n / 9223372036854775808 = -1 by omega]
      rfl
    rw [e1, e2, bits_xor_u64_nat _ _ (by omega) (by decide), Nat.xor_comm, xor_ones64 _ (by omega), zig, if_neg h]
    omega

theorem bits_xor_comm (k : IntKind) (x y : Int) : Go.bits .xor k x y = Go.bits .xor k y x := by
  show k.wrap ((BitVec.ofInt k.bits x ^^^ BitVec.ofInt k.bits y).toNat : Int) = k.wrap ((BitVec.ofInt k.bits y ^^^ BitVec.ofInt k.bits x).toNat : Int)
  rw [BitVec.xor_comm]

theorem bits_xor_zero_i64 (x : Nat) (hx : x < 9223372036854775808) : Go.bits .xor .i64 (x : Int) 0 = x := by
  show IntKind.i64.wrap ((BitVec.ofInt 64 (x : Int) ^^^ BitVec.ofInt 64 0).toNat : Int) = _
  have h2 : (BitVec.ofInt 64 (x : Int)).toNat = x := by
    rw [BitVec.ofInt_natCast, BitVec.toNat_ofNat]; exact Nat.mod_eq_of_lt (by omega)
  rw [BitVec.toNat_xor, h2, show (BitVec.ofInt 64 0).toNat = 0 by decide, Nat.xor_zero, IntKind.wrap_i64]
  omega

theorem zag_bits {u : Int} (h0 : 0 ≤ u) (h1 : u < 18446744073709551616) :
    Go.bits .xor .i64 (wrap64 (u / 2)) (wrap64 (-(wrap64 (Go.bits .and .u64 u 1)))) = zag u := by
  rw [u64_and1 u h0 h1]
  have e1 : wrap64 (u / 2) = (((u / 2).toNat : Nat) : Int) := by unfold wrap64; omega
  by_cases h : u % 2 = 0
  · have e2 : wrap64 (-(wrap64 (u % 2))) = 0 := by rw [h]; decide +kernel
    rw [e1, e2, bits_xor_zero_i64 _ (by omega), zag, if_pos h]
    omega
  · have h' : u % 2 = 1 := by omega
    have e2 : wrap64 (-(wrap64 (u % 2))) = -1 := by rw [h']; decide +kernel
    rw [e1, e2, bits_xor_comm, i64_not _ (by omega), zag, if_neg h]
    omega

/-! ### Fixed fields -/
def le (n : Int) : Nat → List Int
  | 0 => []
  | w + 1 => n % 256 :: le (n / 256) w
def valB : List Int → Int
  | [] => 0
  | c :: cs => c + 256 * valB cs
theorem le_len (w : Nat) : ∀ n, (le n w).length = w := by
  induction w with
  | zero => intro n; rfl
  | succ w ih => intro n; rw [le, List.length_cons, ih]
theorem le_byte (w : Nat) : ∀ n, ∀ c ∈ le n w, 0 ≤ c ∧ c < 256 := by
  induction w with
  | zero => intro n c hc; simp [le] at hc
  | succ w ih =>
    intro n c hc
    rcases List.mem_cons.1 hc with rfl | hc
    · omega
    · exact ih _ c hc
theorem pow256_succ (i : Nat) : (256 : Int) ^ (i + 1) = 256 * 256 ^ i := by rw [Int.pow_succ]; omega
theorem pow256_pos (i : Nat) : (0 : Int) < 256 ^ i := Int.pow_pos (by decide)
theorem div_div256 (n p : Int) : n / 256 / p = n / (256 * p) := by
  rw [Int.ediv_ediv, if_neg (by omega), Int.sub_zero]
theorem le_snoc (w : Nat) : ∀ n, le n (w + 1) = le n w ++ [n / 256 ^ w % 256] := by
  induction w with
  | zero => intro n; simp [le]
  | succ w ih =>
    intro n
    rw [le, ih (n / 256), le, List.cons_append, pow256_succ, div_div256]
theorem valB_le (w : Nat) : ∀ n, 0 ≤ n → n < 256 ^ w → valB (le n w) = n := by
  induction w with
  | zero => intro n h0 h1; simp [le, valB] at *; omega
  | succ w ih =>
    intro n h0 h1
    rw [pow256_succ] at h1
    have := pow256_pos w
    rw [le, valB, ih (n / 256) (by omega) (by generalize (256 : Int) ^ w = p at *; omega)]
    omega
theorem valB_snoc : ∀ (l : List Int) (c : Int), valB (l ++ [c]) = valB l + c * 256 ^ l.length
  | [], c => by simp [valB]
  | d :: l, c => by
    have h := valB_snoc l c
    rw [List.cons_append, List.length_cons, pow256_succ, valB, valB, h]
    have : c * (256 * 256 ^ l.length) = 256 * (c * 256 ^ l.length) := by rw [Int.mul_left_comm]
    omega
theorem valB_range : ∀ l : List Int, (∀ c ∈ l, 0 ≤ c ∧ c < 256) → 0 ≤ valB l ∧ valB l < 256 ^ l.length
  | [], _ => by simp [valB]
  | c :: cs, h => by
    have h1 := valB_range cs (fun d hd => h d (List.mem_cons_of_mem _ hd))
    have h2 := h c (List.mem_cons_self ..)
    rw [List.length_cons, pow256_succ, valB]
    omega
end Go.Proofs.Ytgkncgiemfbglaa.VM
