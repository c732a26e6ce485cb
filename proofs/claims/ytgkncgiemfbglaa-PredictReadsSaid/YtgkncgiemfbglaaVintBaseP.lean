/- What the program's and the document's numbers come to: each printed function tells the plain answer (VintMath). -/
import Derived.Test.YtgkncgiemfbglaaPPrdx4
import Derived.Test.YtgkncgiemfbglaaPPrdx6
import Derived.Test.YtgkncgiemfbglaaVintMath
namespace Go.Proofs.Ytgkncgiemfbglaa.VB
open Go Go.Lib Go.RowKit Go.Proofs.Ytgkncgiemfbglaa.VM Go.Proofs.Ytgkncgiemfbglaa.PPrd Go.Proofs.YtgkncgiemfbglaaW.PrintWords Go.Proofs.YtgkncgiemfbglaaW.PrintLast Go.Proofs.YtgkncgiemfbglaaW.PrintMore
set_option linter.unusedVariables false
set_option linter.unusedSimpArgs false

theorem wf_u64 {x : Int} (h : (Lit.int .u64 x).wf = true) : 0 ≤ x ∧ x < 18446744073709551616 := by
  have := bounds_u64 h; omega
theorem wf_u8 {x : Int} (h : (Lit.int .u8 x).wf = true) : 0 ≤ x ∧ x < 256 := by
  have := bounds_u8 h; omega
theorem wf_i64 {x : Int} (h : (Lit.int .i64 x).wf = true) : -9223372036854775808 ≤ x ∧ x < 9223372036854775808 := by
  have := bounds_i64 h; omega

theorem w64 {x : Int} (h0 : -9223372036854775808 ≤ x) (h1 : x < 9223372036854775808) : wrap64 x = x := by unfold wrap64; omega
theorem u64 {x : Int} (h0 : 0 ≤ x) (h1 : x < 18446744073709551616) : IntKind.u64.wrap x = x := by rw [IntKind.wrap_u64]; omega

theorem rd_at {xs cs : List Int} {c : Int} {i : Nat} (h : xs.drop i = c :: cs) : rd xs (i : Int) = c := by
  obtain ⟨_, _, _, hg⟩ := drop_cons h
  unfold rd
  rw [Int.toNat_natCast]
  exact hg

theorem same_eq {a b : List Int} (h : a = b) : lapidaryref00_Same.f a b = some true := by
  subst h
  unfold lapidaryref00_Same.f
  simp

theorem or128 (x : Int) (h : 0 ≤ x) : Go.bits .or .u8 (x % 256) 128 = x % 128 + 128 := by
  have key : ∀ y : Fin 256, Go.bits .or .u8 ((y.val : Nat) : Int) 128 = ((y.val : Nat) : Int) % 128 + 128 := by decide +kernel
  have h1 := key ⟨(x % 256).toNat, by omega⟩
  simp only [] at h1
  rw [show (((x % 256).toNat : Nat) : Int) = x % 256 by omega] at h1
  rw [h1]
  omega

/-! ### Put -/
theorem put_l1 (xs : List Int) (len i : Int) (hi : 0 ≤ i ∧ i < 9223372036854775807) (r : List Int) : ∀ (n : Nat) (acc : List Int), n < 18446744073709551616 → acc.length + (enc n).length ≤ 140737488355328 →
    Ev (fun k => vint_Put.l0 k (acc ++ enc n) xs len (i + 1)) r → Ev (fun k => vint_Put.l1 k acc (n : Int) xs len i) r := by
  intro n
  induction n using Nat.strongRecOn with
  | _ n ih =>
    intro acc hn hl hr
    have hpos := enc_pos n
    by_cases h : n < 128
    · refine Ev.step (f := fun k => vint_Put.l0 k (acc ++ enc n) xs len (i + 1)) (fun k => ?_) hr
      simp only [vint_Put.l1]
      rw [if_neg (by omega), if_pos (by omega), enc_small h, show ((n : Int) % 256) = n by omega, w64 (x := i + 1) (by omega) (by omega)]
    · have hlen : (enc n).length = (enc (n / 128)).length + 1 := by rw [enc_big h, List.length_cons]
      refine Ev.step (f := fun k => vint_Put.l1 k (acc ++ [(n : Int) % 128 + 128]) ((n / 128 : Nat) : Int) xs len i) (fun k => ?_) (ih (n / 128) (by omega) _ (by omega) (by simp only [List.length_append, List.length_singleton]; omega) ?_)
      · simp only [vint_Put.l1]
        rw [if_pos (by omega), if_pos (by omega), or128 _ (by omega)]
        congr 1
      · rw [List.append_assoc, List.singleton_append, ← enc_big h]
        exact hr

def encs (xs : List Int) : List Int := xs.flatMap fun x => enc x.toNat

theorem encs_cons (x : Int) (xs : List Int) : encs (x :: xs) = enc x.toNat ++ encs xs := by simp [encs]
theorem encs_nil : encs [] = [] := rfl
theorem encs_append (xs ys : List Int) : encs (xs ++ ys) = encs xs ++ encs ys := by simp [encs]

theorem put_l0 (xs : List Int) (hb : ∀ x ∈ xs, 0 ≤ x ∧ x < 18446744073709551616) (hx : xs.length ≤ 9223372036854775806) : ∀ (cs : List Int) (i : Nat) (acc : List Int), xs.drop i = cs → acc.length + 10 * cs.length ≤ 140737488355328 → Ev (fun k => vint_Put.l0 k acc xs (xs.length : Int) (i : Int)) (acc ++ encs cs) := by
  intro cs
  induction cs with
  | nil =>
    intro i acc h hl
    have := drop_nil h
    refine Ev.step (f := fun _ => some acc) (fun k => ?_) (by rw [encs_nil, List.append_nil]; exact Ev.now _)
    simp only [vint_Put.l0]
    rw [if_neg (by omega)]
  | cons c cs ih =>
    intro i acc h hl
    obtain ⟨hlt, hd, _, _⟩ := drop_cons h
    have hc : 0 ≤ c ∧ c < 18446744073709551616 := hb c (by have : c ∈ xs.drop i := by rw [h]; exact List.mem_cons_self ..
                                                           exact List.mem_of_mem_drop this)
    have h10 := enc_len10 (n := c.toNat) (by omega)
    rw [List.length_cons] at hl
    refine Ev.step (f := fun k => vint_Put.l1 k acc ((c.toNat : Nat) : Int) xs (xs.length : Int) (i : Int)) (fun k => ?_) (put_l1 xs _ _ (by omega) _ c.toNat acc (by omega) (by omega) ?_)
    · simp only [vint_Put.l0]
      rw [if_pos (by omega), if_pos (by omega), if_pos (by omega), rd_at h, show ((c.toNat : Nat) : Int) = c by omega]
    · have := ih (i + 1) (acc ++ enc c.toNat) hd (by rw [List.length_append]; omega)
      rw [encs_cons, ← List.append_assoc]
      exact this

theorem put_ev (xs : List Int) (hb : ∀ x ∈ xs, 0 ≤ x ∧ x < 18446744073709551616) (hx : xs.length ≤ 10000000000000) : Ev (fun k => vint_Put.f k xs) (encs xs) := by
  have := put_l0 xs hb (by omega) xs 0 [] (List.drop_zero ..) (by simp; omega)
  exact this

theorem put_one (n : Nat) (h : n < 18446744073709551616) : Ev (fun k => vint_Put.f k [(n : Int)]) (enc n) := by
  have := put_ev [(n : Int)] (by intro x hx; rw [List.mem_singleton] at hx; omega) (by simp)
  rw [encs_cons, encs_nil, List.append_nil, Int.toNat_natCast] at this
  exact this

/-! ### The document's Put -/
theorem rput_l0 : ∀ (m : Nat) (pre : List Int) (c : Int), 0 ≤ c → c < 128 → m < 18446744073709551616 → pre.length ≤ 1000 → Ev (fun k => lapidaryref01_Put.l0 k (m : Int) (pre ++ [c])) (pre ++ (if m = 0 then [c] else (c + 128) :: enc m)) := by
  suffices H : ∀ (j m : Nat) (pre : List Int) (c : Int), 0 ≤ c → c < 128 → m < 128 ^ j → j ≤ 10 → pre.length + j ≤ 1010 → Ev (fun k => lapidaryref01_Put.l0 k (m : Int) (pre ++ [c])) (pre ++ (if m = 0 then [c] else (c + 128) :: enc m)) by
    intro m pre c h0 h1 hm hp
    exact H 10 m pre c h0 h1 (Nat.lt_of_lt_of_le hm (by decide)) (by omega) (by omega)
  intro j
  induction j with
  | zero =>
    intro m pre c h0 h1 hm hj hp
    have : m = 0 := by simpa using hm
    subst this
    rw [if_pos rfl]
    refine Ev.step (f := fun _ => some (pre ++ [c])) (fun k => ?_) (Ev.now _)
    simp only [lapidaryref01_Put.l0]
    rw [if_neg (by omega)]
  | succ j ih =>
    intro m pre c h0 h1 hm hj hp
    by_cases hm0 : m = 0
    · subst hm0
      rw [if_pos rfl]
      refine Ev.step (f := fun _ => some (pre ++ [c])) (fun k => ?_) (Ev.now _)
      simp only [lapidaryref01_Put.l0]
      rw [if_neg (by omega)]
    · rw [if_neg hm0]
      have hdiv : m / 128 < 128 ^ j := by rw [Nat.div_lt_iff_lt_mul (by decide)]; rw [Nat.pow_succ] at hm; exact hm
      have hlt : m < 18446744073709551616 ∨ True := .inr trivial
      have hm10 : m < 1180591620717411303424 := Nat.lt_of_lt_of_le hm (Nat.pow_le_pow_right (by decide) hj)
      have hih := ih (m / 128) (pre ++ [c + 128]) ((m : Int) % 128) (by omega) (by omega) hdiv (by omega) (by simp; omega)
      have hres : (pre ++ [c + 128]) ++ (if m / 128 = 0 then [(m : Int) % 128] else ((m : Int) % 128 + 128) :: enc (m / 128)) = pre ++ (c + 128) :: enc m := by
        rw [List.append_assoc, List.singleton_append]
        congr 2
        by_cases h : m < 128
        · rw [if_pos (by omega), enc_small h]; congr 1; omega
        · rw [if_neg (by omega), enc_big h]
      rw [hres] at hih
      by_cases hm64 : m < 18446744073709551616
      · refine Ev.step (fun k => ?_) hih
        simp only [lapidaryref01_Put.l0]
        have hlen : (((pre ++ [c]).length : Nat) : Int) = (pre.length : Int) + 1 := by simp
        have hw : wrap64 (((pre ++ [c]).length : Int) - 1) = (pre.length : Int) := by rw [hlen, w64 (by omega) (by omega)]; omega
        rw [if_pos (by omega), hw, if_pos (by omega), if_pos (by omega)]
        simp only [Option.bind_some]
        rw [Int.toNat_natCast]
        have hrd : rd (pre ++ [c]) (pre.length : Int) = c := by
          unfold rd
          rw [Int.toNat_natCast, List.getD_eq_getElem?_getD, List.getElem?_append_right (Nat.le_refl _)]
          simp
        have hset : (pre ++ [c]).set pre.length ((c + 128) % 256) = pre ++ [c + 128] := by
          rw [List.set_append_right _ _ (Nat.le_refl _)]
          simp
          omega
        rw [hrd, hset, if_pos (by simp; omega)]
        have e1 : IntKind.u64.wrap (Int.tdiv (m : Int) 128) = ((m / 128 : Nat) : Int) := by
          rw [IntKind.wrap_u64, Int.tdiv_eq_ediv_of_nonneg (by omega)]
          omega
        have e2 : Int.tmod (m : Int) 128 % 256 = (m : Int) % 128 := by
          rw [Int.tmod_eq_emod_of_nonneg (by omega)]
          omega
        rw [e1, e2]
      · -- not come to: kept for the induction's sake
        refine Ev.step (fun k => ?_) hih
        simp only [lapidaryref01_Put.l0]
        have hlen : (((pre ++ [c]).length : Nat) : Int) = (pre.length : Int) + 1 := by simp
        have hw : wrap64 (((pre ++ [c]).length : Int) - 1) = (pre.length : Int) := by rw [hlen, w64 (by omega) (by omega)]; omega
        rw [if_pos (by omega), hw, if_pos (by omega), if_pos (by omega)]
        simp only [Option.bind_some]
        rw [Int.toNat_natCast]
        have hrd : rd (pre ++ [c]) (pre.length : Int) = c := by
          unfold rd
          rw [Int.toNat_natCast, List.getD_eq_getElem?_getD, List.getElem?_append_right (Nat.le_refl _)]
          simp
        have hset : (pre ++ [c]).set pre.length ((c + 128) % 256) = pre ++ [c + 128] := by
          rw [List.set_append_right _ _ (Nat.le_refl _)]
          simp
          omega
        rw [hrd, hset, if_pos (by simp; omega)]
        have e1 : IntKind.u64.wrap (Int.tdiv (m : Int) 128) = ((m / 128 : Nat) : Int) := by
          rw [IntKind.wrap_u64, Int.tdiv_eq_ediv_of_nonneg (by omega)]
          omega
        have e2 : Int.tmod (m : Int) 128 % 256 = (m : Int) % 128 := by
          rw [Int.tmod_eq_emod_of_nonneg (by omega)]
          omega
        rw [e1, e2]

theorem rput_ev (n : Nat) (h : n < 18446744073709551616) : Ev (fun k => lapidaryref01_Put.f k (n : Int)) (enc n) := by
  have := rput_l0 (n / 128) [] ((n : Int) % 128) (by omega) (by omega) (by omega) (by simp)
  rw [List.nil_append, List.nil_append] at this
  have e0 : (if n / 128 = 0 then [(n : Int) % 128] else ((n : Int) % 128 + 128) :: enc (n / 128)) = enc n := by
    by_cases h : n < 128
    · rw [if_pos (by omega), enc_small h]; congr 1; omega
    · rw [if_neg (by omega), enc_big h]
  rw [e0] at this
  have e1 : IntKind.u64.wrap (Int.tdiv (n : Int) 128) = ((n / 128 : Nat) : Int) := by
    rw [IntKind.wrap_u64, Int.tdiv_eq_ediv_of_nonneg (by omega)]
    omega
  have e2 : Int.tmod (n : Int) 128 % 256 = (n : Int) % 128 := by
    rw [Int.tmod_eq_emod_of_nonneg (by omega)]
    omega
  refine Ev.congr (fun k => ?_) this
  unfold lapidaryref01_Put.f
  rw [e1, e2]

/-! ### Get -/
theorem or_shl {i : Nat} (hi : i ≤ 9) {n d : Int} (h0 : 0 ≤ n) (h1 : n < 128 ^ i) (hd0 : 0 ≤ d) (hd1 : d < 128) (h9 : i = 9 → d ≤ 1) :
    Go.bits .or .u64 n (shl .u64 (IntKind.u64.wrap d) (wrap64 (7 * (i : Int)))) = n + d * 128 ^ i := by
  have e : min (wrap64 (7 * (i : Int))).toNat IntKind.u64.bits = 7 * i := by
    rw [w64 (by omega) (by omega)]
    show min _ 64 = _
    omega
  have ep : (2 : Int) ^ (7 * i) = 128 ^ i := by rw [Int.pow_mul]; rfl
  have ew : IntKind.u64.wrap d = d := by rw [IntKind.wrap_u64]; omega
  have hlt : d * 128 ^ i < 18446744073709551616 := by
    rcases Nat.lt_or_ge i 9 with h | h
    · have hp : (128 : Int) ^ i ≤ 128 ^ 8 := by exact_mod_cast Nat.pow_le_pow_right (show 0 < 128 by decide) (show i ≤ 8 by omega)
      have h8 : (128 : Int) ^ 8 = 72057594037927936 := by decide
      have := pow128_pos i
      have : d * 128 ^ i ≤ 128 * 128 ^ i := Int.mul_le_mul_of_nonneg_right (by omega) (by omega)
      omega
    · obtain rfl : i = 9 := by omega
      have := h9 rfl
      have h8 : (128 : Int) ^ 9 = 9223372036854775808 := by decide
      rw [h8]
      omega
  have hnn : 0 ≤ d * 128 ^ i := Int.mul_nonneg hd0 (by have := pow128_pos i; omega)
  unfold shl
  rw [e, ep, ew, show IntKind.u64.wrap (d * 128 ^ i) = d * 128 ^ i by rw [IntKind.wrap_u64]; omega]
  have h63 : (128 : Int) ^ i ≤ 128 ^ 9 := by exact_mod_cast Nat.pow_le_pow_right (show 0 < 128 by decide) hi
  have h8 : (128 : Int) ^ 9 = 9223372036854775808 := by decide
  exact bits_join_low .u64 64 (by decide) wraps_u64 (7 * i) n (d * 128 ^ i) h0 (by rw [ep]; exact h1) (by omega) hnn (by rw [ep]; exact Int.mul_emod_left ..) (by omega)

set_option maxHeartbeats 2000000 in
theorem get_l0 (a : Nat) (xs : List Int) (hb : ∀ c ∈ xs, 0 ≤ c ∧ c < 256) (ha : a + xs.length ≤ 1000000000000000) : ∀ (cs : List Int) (i : Nat) (n : Int), xs.drop i = cs → i ≤ 9 → n = val (xs.take i) →
    Ev (fun k => vint_Get.l0 k (a : Int) n (-1) xs (xs.length : Int) (i : Int)) (scan xs a cs i) := by
  intro cs
  induction cs with
  | nil =>
    intro i n h hi hn
    have := drop_nil h
    refine Ev.step (f := fun _ => some (0, 0, 10)) (fun k => ?_) (Ev.now _)
    simp only [vint_Get.l0]
    rw [if_neg (by omega), if_pos (by omega)]
  | cons c cs ih =>
    intro i n h hi hn
    obtain ⟨hlt, hd, ht, _⟩ := drop_cons h
    have hc : 0 ≤ c ∧ c < 256 := hb c (by have : c ∈ xs.drop i := by rw [h]; exact List.mem_cons_self ..
                                          exact List.mem_of_mem_drop this)
    have hz : ¬ ((a : Int) + i + 1 < 0) := by omega
    have hlen : (xs.take i).length = i := by rw [List.length_take]; omega
    have hn0 : 0 ≤ n := by rw [hn]; exact val_nonneg _
    have hn1 : n < 128 ^ i := by have := val_lt (xs.take i); rw [hlen] at this; rw [hn]; exact this
    have hw7 : 0 ≤ wrap64 (7 * (i : Int)) := by rw [w64 (by omega) (by omega)]; omega
    have hwa : wrap64 ((wrap64 ((a : Int) + i)) + 1) = (a : Int) + i + 1 := by rw [w64 (x := (a : Int) + i) (by omega) (by omega), w64 (by omega) (by omega)]
    -- the switch
    have hhead : ∀ (b : Bool), b = decide (i = 9 ∧ c > 1) → Ev (fun k => vint_Get.j2 k (a : Int) n (-1) (i : Int) c xs (xs.length : Int) (i : Int) b) (scan xs a (c :: cs) i) := by
      intro b hbb
      by_cases h1 : i = 9 ∧ c > 1
      · rw [decide_eq_true h1] at hbb
        subst hbb
        rw [scan, if_pos h1]
        refine Ev.step (f := fun _ => some (0, 0, 11)) (fun k => ?_) (Ev.now _)
        simp only [vint_Get.j2]
        rw [if_pos trivial]
      · rw [decide_eq_false h1] at hbb
        subst hbb
        rw [scan, if_neg h1]
        by_cases h2 : c < 128
        · rw [if_pos h2]
          have hor := or_shl hi hn0 hn1 hc.1 h2 (by intro h9; rcases Int.lt_or_le 1 c with h' | h'
                                                    · exact absurd ⟨h9, h'⟩ h1
                                                    · exact h')
          have hval : n + c * 128 ^ i = val (xs.take (i + 1)) := by rw [ht, val_snoc, hlen, hn, show c % 128 = c by omega]
          by_cases h3 : c = 0 ∧ 0 < i
          · rw [if_pos h3]
            refine Ev.step (f := fun _ => some (0, 0, 11)) (fun k => ?_) (Ev.now _)
            simp only [vint_Get.j2]
            rw [if_neg (by decide), if_pos h2, if_pos hw7, if_pos h3.1, if_pos (by omega)]
          · rw [if_neg h3, ← hval]
            refine Ev.step (f := fun _ => some (n + c * 128 ^ i, (a : Int) + i + 1, 0)) (fun k => ?_) (Ev.now _)
            simp only [vint_Get.j2]
            rw [if_neg (by decide), if_pos h2, if_pos hw7, hwa, hor]
            by_cases h4 : c = 0
            · have h5 : ¬ ((i : Int) > 0) := fun h' => h3 ⟨h4, Int.natCast_pos.mp h'⟩
              rw [if_pos h4, if_neg h5, if_neg hz]
            · rw [if_neg h4, if_neg hz]
        · rw [if_neg h2]
          have hi9 : i ≠ 9 := fun h9 => h1 ⟨h9, by omega⟩
          have hor := or_shl (d := c % 128) hi hn0 hn1 (by omega) (by omega) (by intro h9; exact absurd h9 hi9)
          refine Ev.step (f := fun k => vint_Get.l0 k (a : Int) (n + c % 128 * 128 ^ i) (-1) xs (xs.length : Int) ((i + 1 : Nat) : Int)) (fun k => ?_) (ih (i + 1) _ hd (by omega) (by rw [ht, val_snoc, hlen, hn]))
          simp only [vint_Get.j2]
          rw [if_neg (by decide), if_neg h2, if_pos hw7, u8_and127 c hc.1 hc.2, hor, w64 (x := (i : Int) + 1) (by omega) (by omega)]
          rfl
    by_cases h9 : i = 9
    · refine Ev.step (fun k => ?_) (hhead (decide (c > 1)) (by simp [h9]))
      simp only [vint_Get.l0]
      rw [if_pos (by omega), if_pos (by omega), if_pos (by omega), if_neg (by omega), if_pos (by omega), rd_at h]
    · refine Ev.step (fun k => ?_) (hhead false (by simp [h9]))
      simp only [vint_Get.l0]
      rw [if_pos (by omega), if_pos (by omega), if_pos (by omega), if_neg (by omega), if_neg (by omega), rd_at h]

theorem get_ev (l : List Int) (a : Int) (hb : ∀ c ∈ l, 0 ≤ c ∧ c < 256) (hl : l.length ≤ 100000000000000) : Ev (fun k => vint_Get.f k l a) (getS l a) := by
  unfold getS vint_Get.f
  by_cases h1 : a < 0
  · rw [if_pos h1]
    refine Ev.congr (f := fun k => vint_Get.j0 k l a true) (fun k => by rw [if_pos h1]) (Ev.step (f := fun _ => some (0, 0, 2)) (fun k => ?_) (Ev.now _))
    simp only [vint_Get.j0]
    rw [if_pos trivial]
  · rw [if_neg h1]
    by_cases h2 : a > (l.length : Int)
    · rw [if_pos h2]
      refine Ev.congr (f := fun k => vint_Get.j0 k l a true) (fun k => by rw [if_neg h1, decide_eq_true h2]) (Ev.step (f := fun _ => some (0, 0, 2)) (fun k => ?_) (Ev.now _))
      simp only [vint_Get.j0]
      rw [if_pos trivial]
    · rw [if_neg h2]
      have := get_l0 a.toNat (l.drop a.toNat) (fun c hc => hb c (List.mem_of_mem_drop hc)) (by rw [List.length_drop]; omega) (l.drop a.toNat) 0 0 (List.drop_zero ..) (by omega) rfl
      rw [show ((a.toNat : Nat) : Int) = a by omega] at this
      refine Ev.congr (f := fun k => vint_Get.j0 k l a false) (fun k => by rw [if_neg h1, decide_eq_false h2]) (Ev.step (fun k => ?_) this)
      simp only [vint_Get.j0]
      rw [if_neg (by decide), if_pos (by omega), if_pos (by omega)]
      rfl

/-! ### The document's Get -/
theorem rd_drop {l cs : List Int} {c : Int} {a i : Nat} (h : (l.drop a).drop i = c :: cs) : rd l ((a : Int) + i) = c := by
  rw [List.drop_drop] at h
  have := rd_at h
  rw [← this]
  congr 1

theorem rget_l1 (l : List Int) (a : Nat) (e : Int) (he : 0 ≤ e ∧ e < 1000000000000000) (hal : a + (l.drop a).length ≤ 1000000000000000) (hb : ∀ c ∈ l, 0 ≤ c ∧ c < 256) : ∀ (j : Nat) (acc : Int), j ≤ (l.drop a).length → 0 ≤ acc → acc * 128 ^ j + val ((l.drop a).take j) < 18446744073709551616 →
    Ev (fun k => lapidaryref01_Get.l1 k l (a : Int) e acc ((a : Int) + j - 1)) (acc * 128 ^ j + val ((l.drop a).take j), e + 1, 0) := by
  intro j
  induction j with
  | zero =>
    intro acc hj h0 hlt
    refine Ev.step (f := fun _ => some (acc, e + 1, 0)) (fun k => ?_) (by simp [val]; exact Ev.now _)
    simp only [lapidaryref01_Get.l1]
    rw [if_neg (by omega), w64 (x := e + 1) (by omega) (by omega)]
  | succ j ih =>
    intro acc hj h0 hlt
    obtain ⟨c, cs, hcs⟩ : ∃ c cs, (l.drop a).drop j = c :: cs := by
      rcases hd : (l.drop a).drop j with _ | ⟨c, cs⟩
      · have := drop_nil hd; omega
      · exact ⟨c, cs, rfl⟩
    obtain ⟨hlt', hd, ht, _⟩ := drop_cons hcs
    have hlen : ((l.drop a).take j).length = j := by rw [List.length_take]; omega
    have hc : 0 ≤ c ∧ c < 256 := hb c (by have : c ∈ (l.drop a).drop j := by rw [hcs]; exact List.mem_cons_self ..
                                          exact List.mem_of_mem_drop (List.mem_of_mem_drop this))
    have hp := pow128_pos j
    have hv := val_nonneg ((l.drop a).take j)
    have hsum : acc * 128 ^ (j + 1) + val ((l.drop a).take (j + 1)) = (acc * 128 + c % 128) * 128 ^ j + val ((l.drop a).take j) := by
      rw [ht, val_snoc, hlen, pow128_succ, Int.add_mul, Int.mul_assoc]
      omega
    rw [hsum] at hlt ⊢
    have hnn : 0 ≤ acc * 128 + c % 128 := by omega
    have hle : acc * 128 + c % 128 ≤ (acc * 128 + c % 128) * 128 ^ j := by
      have := Int.mul_le_mul_of_nonneg_left (show (1 : Int) ≤ 128 ^ j by omega) hnn
      omega
    have hdl : (l.drop a).length = l.length - a := List.length_drop
    refine Ev.step (fun k => ?_) (ih (acc * 128 + c % 128) (by omega) hnn hlt)
    simp only [lapidaryref01_Get.l1]
    have e1 : (a : Int) + ((j + 1 : Nat) : Int) - 1 = (a : Int) + j := by omega
    have e2 : IntKind.u64.wrap ((IntKind.u64.wrap (acc * 128)) + (IntKind.u64.wrap (Int.tmod c 128))) = acc * 128 + c % 128 := by
      rw [IntKind.wrap_u64, IntKind.wrap_u64, IntKind.wrap_u64, Int.tmod_eq_emod_of_nonneg hc.1]
      omega
    rw [e1, rd_drop hcs, if_pos (by omega), if_pos (by omega), if_pos (by omega), e2, w64 (x := (a : Int) + j - 1) (by omega) (by omega)]

/-- Fewer than 2^64, if it is no other form. -/
theorem val_fits {xs cs : List Int} {c : Int} {i : Nat} (hb : ∀ c ∈ xs, 0 ≤ c ∧ c < 256) (h : xs.drop i = c :: cs) (hi : i ≤ 9) (h1 : ¬ (i = 9 ∧ c > 1)) : val (xs.take (i + 1)) < 18446744073709551616 := by
  obtain ⟨hlt, hd, ht, _⟩ := drop_cons h
  have hc : 0 ≤ c ∧ c < 256 := hb c (by have : c ∈ xs.drop i := by rw [h]; exact List.mem_cons_self ..
                                        exact List.mem_of_mem_drop this)
  rcases Nat.lt_or_ge i 9 with h9 | h9
  · have h4 := val_lt (xs.take (i + 1))
    have h5 : (xs.take (i + 1)).length ≤ 9 := by rw [List.length_take]; omega
    have h6 : (128 : Int) ^ (xs.take (i + 1)).length ≤ 128 ^ 9 := by exact_mod_cast Nat.pow_le_pow_right (show 0 < 128 by decide) h5
    have h7 : (128 : Int) ^ 9 = 9223372036854775808 := by decide
    omega
  · obtain rfl : i = 9 := by omega
    have hc1 : c ≤ 1 := by
      rcases Int.lt_or_le 1 c with h' | h'
      · exact absurd ⟨rfl, h'⟩ h1
      · exact h'
    rw [ht, val_snoc]
    have h4 := val_lt (xs.take 9)
    have h5 : (xs.take 9).length = 9 := by rw [List.length_take]; omega
    rw [h5] at h4 ⊢
    have h7 : (128 : Int) ^ 9 = 9223372036854775808 := by decide
    rw [h7] at h4 ⊢
    have : c % 128 = c := by omega
    rw [this]
    omega

set_option maxHeartbeats 2000000 in
theorem rget_l0 (l : List Int) (a : Nat) (hal : a + (l.drop a).length ≤ 100000000000000) (hale : a ≤ l.length) (hb : ∀ c ∈ l, 0 ≤ c ∧ c < 256) : ∀ (cs : List Int) (i : Nat), (l.drop a).drop i = cs → i ≤ 9 → i ≤ (l.drop a).length →
    Ev (fun k => lapidaryref01_Get.l0 k l (a : Int) ((a : Int) + i)) (scan (l.drop a) a cs i) := by
  have hdl : (l.drop a).length = l.length - a := List.length_drop
  intro cs
  induction cs with
  | nil =>
    intro i h hi hil
    have := drop_nil h
    refine Ev.step (f := fun k => lapidaryref01_Get.j2 k l (a : Int) ((a : Int) + i) false) (fun k => ?_) (Ev.step (f := fun _ => some (0, 0, 10)) (fun k => ?_) (Ev.now _))
    · simp only [lapidaryref01_Get.l0]
      rw [if_neg (by omega)]
    · simp only [lapidaryref01_Get.j2]
      rw [if_neg (by decide), if_pos (by omega)]
  | cons c cs ih =>
    intro i h hi hil
    obtain ⟨hlt, hd, ht, _⟩ := drop_cons h
    have hbd : ∀ c ∈ l.drop a, 0 ≤ c ∧ c < 256 := fun c hc => hb c (List.mem_of_mem_drop hc)
    have hc : 0 ≤ c ∧ c < 256 := hbd c (by have : c ∈ (l.drop a).drop i := by rw [h]; exact List.mem_cons_self ..
                                           exact List.mem_of_mem_drop this)
    have hw : wrap64 ((a : Int) + i - a) = (i : Int) := by rw [w64 (by omega) (by omega)]; omega
    by_cases h2 : c < 128
    · -- it is the last one
      have hj3 : ∀ (b : Bool), b = decide ((i = 9 ∧ c > 1) ∨ c = 0 ∧ 0 < i) → Ev (fun k => lapidaryref01_Get.j3 k l (a : Int) ((a : Int) + i) b) (scan (l.drop a) a (c :: cs) i) := by
        intro b hbb
        rw [scan]
        by_cases h1 : i = 9 ∧ c > 1
        · rw [decide_eq_true (Or.inl h1)] at hbb
          subst hbb
          rw [if_pos h1]
          refine Ev.step (f := fun _ => some (0, 0, 11)) (fun k => ?_) (Ev.now _)
          simp only [lapidaryref01_Get.j3]
          rw [if_pos trivial]
        · rw [if_neg h1, if_pos h2]
          by_cases h3 : c = 0 ∧ 0 < i
          · rw [decide_eq_true (Or.inr h3)] at hbb
            subst hbb
            rw [if_pos h3]
            refine Ev.step (f := fun _ => some (0, 0, 11)) (fun k => ?_) (Ev.now _)
            simp only [lapidaryref01_Get.j3]
            rw [if_pos trivial]
          · rw [decide_eq_false (by rintro (h' | h') <;> contradiction)] at hbb
            subst hbb
            rw [if_neg h3]
            have hfit := val_fits hbd h hi h1
            have := rget_l1 l a ((a : Int) + i) (by omega) (by omega) hb (i + 1) 0 (by omega) (by omega) (by omega)
            rw [Int.zero_mul, Int.zero_add] at this
            refine Ev.step (fun k => ?_) this
            simp only [lapidaryref01_Get.j3]
            rw [if_neg (by decide)]
            congr 1
            omega
      -- the test ahead
      have hj2 : Ev (fun k => lapidaryref01_Get.j2 k l (a : Int) ((a : Int) + i) false) (scan (l.drop a) a (c :: cs) i) := by
        by_cases h9 : i = 9
        · by_cases hc1 : c > 1
          · refine Ev.step (fun k => ?_) (hj3 true (by simp [h9, hc1]))
            simp only [lapidaryref01_Get.j2]
            rw [if_neg (by decide), if_neg (by omega), hw, if_pos (by omega), if_pos (by omega), if_pos (by omega), rd_drop h, if_pos hc1]
          · refine Ev.step (fun k => ?_) (hj3 (c == 0) (by have : 0 < i := by omega
                                                           simp [h9, hc1]; rfl))
            simp only [lapidaryref01_Get.j2]
            rw [if_neg (by decide), if_neg (by omega), hw, if_pos (by omega), if_pos (by omega), if_pos (by omega), rd_drop h, if_neg hc1, if_pos (by omega)]
        · by_cases h0 : 0 < i
          · refine Ev.step (fun k => ?_) (hj3 (c == 0) (by simp [h9, h0]; rfl))
            simp only [lapidaryref01_Get.j2]
            rw [if_neg (by decide), if_neg (by omega), hw, if_neg (by omega), if_pos (by omega), if_pos (by omega), if_pos (by omega), rd_drop h]
          · refine Ev.step (fun k => ?_) (hj3 false (by simp [h9, h0]))
            simp only [lapidaryref01_Get.j2]
            rw [if_neg (by decide), if_neg (by omega), hw, if_neg (by omega), if_neg (by omega)]
      refine Ev.step (fun k => ?_) hj2
      simp only [lapidaryref01_Get.l0]
      rw [if_pos (by omega), if_pos (by omega), rd_drop h, if_neg (by omega)]
    · refine Ev.step (f := fun k => lapidaryref01_Get.j2 k l (a : Int) ((a : Int) + i) true) (fun k => ?_) ?_
      · simp only [lapidaryref01_Get.l0]
        rw [if_pos (by omega), if_pos (by omega), rd_drop h, if_pos (by omega), hw, decide_eq_true (by omega)]
      · rw [scan]
        by_cases h9 : i = 9
        · rw [if_pos ⟨h9, by omega⟩]
          refine Ev.step (f := fun _ => some (0, 0, 11)) (fun k => ?_) (Ev.now _)
          simp only [lapidaryref01_Get.j2]
          rw [if_pos trivial, hw, if_pos (by omega)]
        · rw [if_neg (by rintro ⟨h', _⟩; exact h9 h'), if_neg h2]
          refine Ev.step (fun k => ?_) (ih (i + 1) hd (by omega) (by omega))
          simp only [lapidaryref01_Get.j2]
          rw [if_pos trivial, hw, if_neg (by omega)]
          rw [w64 (by omega) (by omega)]
          congr 1

theorem rget_ev (l : List Int) (a : Int) (hb : ∀ c ∈ l, 0 ≤ c ∧ c < 256) (hl : l.length ≤ 100000000000000) : Ev (fun k => lapidaryref01_Get.f k l a) (getS l a) := by
  unfold getS lapidaryref01_Get.f
  by_cases h1 : a < 0
  · rw [if_pos h1]
    refine Ev.congr (f := fun k => lapidaryref01_Get.j0 k l a true) (fun k => by rw [if_pos h1]) (Ev.step (f := fun _ => some (0, 0, 2)) (fun k => ?_) (Ev.now _))
    simp only [lapidaryref01_Get.j0]
    rw [if_pos trivial]
  · rw [if_neg h1]
    by_cases h2 : a > (l.length : Int)
    · rw [if_pos h2]
      refine Ev.congr (f := fun k => lapidaryref01_Get.j0 k l a true) (fun k => by rw [if_neg h1, decide_eq_true h2]) (Ev.step (f := fun _ => some (0, 0, 2)) (fun k => ?_) (Ev.now _))
      simp only [lapidaryref01_Get.j0]
      rw [if_pos trivial]
    · rw [if_neg h2]
      have := rget_l0 l a.toNat (by rw [List.length_drop]; omega) (by omega) hb (l.drop a.toNat) 0 (List.drop_zero ..) (by omega) (by omega)
      rw [show ((a.toNat : Nat) : Int) = a by omega] at this
      refine Ev.congr (f := fun k => lapidaryref01_Get.j0 k l a false) (fun k => by rw [if_neg h1, decide_eq_false h2]) (Ev.step (fun k => ?_) this)
      simp only [lapidaryref01_Get.j0]
      rw [if_neg (by decide), show a + ((0 : Nat) : Int) = a by omega]

/-! ### By turns -/
theorem zig_f {n : Int} (h : -9223372036854775808 ≤ n ∧ n < 9223372036854775808) : vint_Zig.f n = some (zig n) := by
  unfold vint_Zig.f
  rw [zig_bits h.1 h.2]
theorem zag_f {u : Int} (h : 0 ≤ u ∧ u < 18446744073709551616) : vint_Zag.f u = some (zag u) := by
  unfold vint_Zag.f
  rw [zag_bits h.1 h.2]
theorem rzag_f {u : Int} (h : 0 ≤ u ∧ u < 18446744073709551616) : lapidaryref01_Zag.f u = some (zag u) := by
  unfold lapidaryref01_Zag.f zag
  rw [Int.tmod_eq_emod_of_nonneg h.1, Int.tdiv_eq_ediv_of_nonneg h.1, IntKind.wrap_u64]
  by_cases h2 : u % 2 = 0
  · rw [if_pos h2, if_pos h2]; congr 1; unfold wrap64; omega
  · rw [if_neg h2, if_neg h2]; congr 1; unfold wrap64; omega
end Go.Proofs.Ytgkncgiemfbglaa.VB
