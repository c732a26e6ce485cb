/- The statements of grid: points, kinds. -/
import Derived.Test.YtpkcabpnehbmhaaGridPts2
namespace Go.Proofs.Ytpkcabpnehbmhaa.GW
open Go Go.RowKit Go.Proofs.Ytpkcabpnehbmhaa.Mem Go.Proofs.Ytpkcabpnehbmhaa.FM Go.Proofs.Ytpkcabpnehbmhaa.PPts Go.Proofs.YtpkcabpnehbmhaaW.PrintWords Go.Proofs.YtpkcabpnehbmhaaW.PrintLast
set_option linter.unusedVariables false
set_option linter.unusedSimpArgs false

theorem same_refl (l : List S68) (hl : l.length < 4611686018427387904) : ∀ n i : Nat, i + n = l.length → lapidaryref07_SamePoints.l0 (n + 1) l l i = some true := by
  intro n
  induction n with
  | zero =>
    intro i hi
    rw [lapidaryref07_SamePoints.l0, if_neg (by omega)]
  | succ n ih =>
    intro i hi
    rw [lapidaryref07_SamePoints.l0, if_pos (by omega), if_pos (by omega), if_pos (by omega), if_neg (by simp)]
    rw [show wrap64 ((i : Int) + 1) = ((i + 1 : Nat) : Int) by unfold wrap64; omega]
    exact ih (i + 1) (by omega)
theorem same_true (l : List S68) (hl : l.length < 4611686018427387904) : lapidaryref07_SamePoints.f (l.length + 1) l l = some true := by
  unfold lapidaryref07_SamePoints.f
  rw [if_pos rfl]
  exact same_refl l hl l.length 0 (by omega)
theorem pts_len (up : Int) : ∀ (n : Nat) (l : List Nat) (o : List S68), l.length ≤ n → (ptsB up l o).1.length ≤ o.length + l.length := by
  intro n
  induction n with
  | zero =>
    intro l o h
    match l, h with
    | [], _ => rw [ptsB]; simp
  | succ n ih =>
    intro l o h
    match l, h with
    | [], _ => rw [ptsB]; simp
    | [_], _ => rw [ptsB]; simp
    | a :: b :: r, h =>
      rw [ptsB]
      split
      · split
        · have := ih r (o ++ [⟨(scaledB a up).1, (scaledB b up).1, 0⟩]) (by simp at h; omega)
          simp at this ⊢
          omega
        · simp
      · simp
theorem points_len (up : Int) (l : List Nat) : (pointsB up l).1.length ≤ l.length := by
  unfold pointsB
  split
  · simp
  · have := pts_len up l.length l [] (Nat.le_refl _)
    simpa using this
theorem wf_nats {l : List Int} (h : ∀ z ∈ l, (Lit.int .u64 z).wf = true) : ∀ x ∈ l.map Int.toNat, x < 2 ^ 64 := by
  intro x hx
  obtain ⟨z, hz, rfl⟩ := List.mem_map.1 hx
  obtain ⟨b, hb, hb2⟩ := wf_u64 (h z hz)
  subst hb
  simpa using hb2
theorem at_u64 {w : World} {A : Option Addr} {n : Nat} {xs : List Int} (h : Kd.C (Kd.int .u64) w A n xs) (i : Nat) (h1 : i < n) : ∃ ad, A = some ad ∧ w.cell? (ad.add i) = some (.int .u64 (xs.getD i 0)) := by
  obtain ⟨ad, c, e, _, hK, hc⟩ := Kd.C_get h 0 (i : Int) (by omega) (by omega)
  have hK' : c = [.int .u64 (xs.getD i 0)] := hK
  subst hK'
  have := hc 0 _ rfl
  rw [show (Kd.int .u64).sz = 1 from rfl, Nat.mul_one, Nat.add_zero, Int.toNat_natCast] at this
  exact ⟨ad, e, this⟩
theorem take_next (l : List Int) (i : Nat) (hi : i < l.length) : (l.take (i + 1)).map Int.toNat = (l.take i).map Int.toNat ++ [(l.getD i 0).toNat] := by
  rw [List.take_add_one, List.map_append, List.getElem?_eq_getElem hi, List.getD_eq_getElem?_getD, List.getElem?_eq_getElem hi]
  rfl

set_option maxRecDepth 100000 in
theorem points11 (W : World) (up : Int) (hu : (Lit.int .i64 up).wf = true) (A : Option Addr) (l : List Int) (c : Nat) (hr : Kd.C (Kd.int .u64) W A l.length l) (hc : l.length ≤ c) (hg : l.length * 8 ≤ reachBytes ∧ ∀ z ∈ l, (Lit.int .u64 z).wf = true) :
    Calls Try.prog 11 #[.int .i64 up, .slice A l.length c] W fun e W' => e = .returned (.bool true) ∧ Below W.heap.size W W' := by
  have h12 := x12
  have HR := Lib.hid hr
  have HW := Lib.hid (wf_nats hg.2)
  clear hr hg hu
  go_enter Try.func11, Try.ntmps11
  by_cases h60 : 60 < l.length
  · have t1 : decide ((60 : Int) < (l.length : Int)) = true := decide_eq_true (by omega)
    go_wp2_with fail
    refine (known16 _).mono ?_
    rintro e wz ⟨rfl, hwz⟩
    subst hwz
    go_wp2
    go_ret
    exact ⟨rfl, good⟩
  have t1 : decide ((60 : Int) < (l.length : Int)) = false := decide_eq_false (by omega)
  go_wp2_with fail
  go_loopw [5, 6] (fun vx vi wr => ∃ (i : Nat), vi = .int .i64 i ∧ i ≤ l.length ∧ Kd.R kf 23 wr W.heap.size (fun _ => True) vx ((l.take i).map Int.toNat) ∧ Below W.heap.size W wr) (fun _ vi _ => l.length - (intOf vi).toNat)
  case atStart => exact ⟨0, rfl, Nat.zero_le _, Kd.R_nil _ _ _ _ _, Below.refl _ _⟩
  case round =>
    obtain ⟨i, rfl, hi, hR, hB⟩ := hrel
    by_cases hlt : i < l.length
    · have d1 : decide ((i : Int) < (l.length : Int)) = true := decide_eq_true (by omega)
      have hC := Kd.C_below HR.out hB
      obtain ⟨ad, hA, c1⟩ := at_u64 hC i hlt
      have hnx := take_next l i hlt
      have hlen : ((l.take i).map Int.toNat).length = i := by rw [List.length_map, List.length_take]; omega
      generalize l.getD i 0 = x at *
      obtain ⟨Ao, co, rfl⟩ := Kd.R_slice hR
      subst hA
      replace hnx := Lib.hid hnx
      replace hlen := Lib.hid hlen
      go_wp2_with (first | ((with_reducible refine gate_builtin (b := .append) (xs := #[.tmp 21, .tmp 27]) rfl ?_); at_builtin; refine Kd.R_append kf (w0 := W) W.heap.size rfl (.tmp 21) (.tmp 27) 51 23 (.float .f64 0) 8 rfl Try.underlying51 info23 rfl (by decide) (by omega) (.slice Ao ((l.take i).map Int.toNat).length co) ((l.take i).map Int.toNat) x.toNat [.float .f64 x.toNat] (fun _ => True) (fun _ => False) rfl ?aX ?aP (fun _ hk => hk.elim) ?aF ?aO ?aB ?aS ?aL ?_; (case aX => rfl); (case aP => exact kf_mkM _ _ _ _); (case aF => exact fun _ _ => trivial); (case aO => exact hR); (case aB => exact hB); (case aS => exact hB.size); (case aL => rw [hlen.out]; omega); intro va7 w7 hR7 hb7 hgr7 hat7; clear hR hB hgr7 hat7))
      go_roundw
      case rel => exact ⟨i + 1, by go_num, by omega, by rw [hnx.out]; exact hR7, hb7⟩
      case measure => simp [intOf]; omega
    · have d1 : decide ((i : Int) < (l.length : Int)) = false := decide_eq_false (by omega)
      have he : l.take i = l := List.take_of_length_le (by omega)
      rw [he] at hR
      have hlen : (l.map Int.toNat).length ≤ 60 := by rw [List.length_map]; omega
      have hW := HW.out
      generalize l.map Int.toNat = xs at *
      obtain ⟨Ao, co, rfl, hco, hC⟩ := Kd.R_reads hR
      have hlen2 := points_len up xs
      have hst := same_true (pointsB up xs).1 (by omega)
      clear hR
      go_wp2_with fail
      refine (Points28 up Ao xs co _ hC hco hW hlen).mono ?_
      rintro e w8 ⟨v8, rfl, hR8, hB8⟩
      have hC8 := Kd.C_below hC hB8
      have hb8 := hB.trans (hB8.mono hB.size)
      clear hB8
      obtain ⟨A8, k8, rfl, hk8, hP8⟩ := Kd.R_reads hR8
      clear hR8
      go_wp2_with fail
      refine (Points29 up Ao xs co _ hC8 hco hW hlen).mono ?_
      rintro e w9 ⟨v9, rfl, hR9, hB9⟩
      have hP8' := Kd.C_below hP8 hB9
      have hb9 := hb8.trans (hB9.mono hb8.size)
      clear hB9 hP8
      obtain ⟨A9, k9, rfl, hk9, hP9⟩ := Kd.R_reads hR9
      clear hR9
      generalize (pointsB up xs).1 = D at *
      go_wp2_with fail
      refine (lapidaryref07_SamePoints.calls (D.length + 1) A8 k8 D A9 k9 D true _ hP8' hk8 hP9 hk9 hst).mono ?_
      rintro e w10 ⟨rfl, hd⟩
      have hb10 := hb9.trans (hd.below.mono hb9.size)
      clear hd
      go_wp2_with fail
      refine (known16 _).mono ?_
      rintro e wz ⟨rfl, hwz⟩
      subst hwz
      go_wp2
      go_ret
      exact ⟨rfl, hb10⟩

theorem kinds_pair (b : Nat) (hb : b < 18446744073709551616) : (kindB b = 0 ∧ kindB (negb b) = 0) ∨ (kindB b = 1 ∧ kindB (negb b) = 2) ∨ (kindB b = 2 ∧ kindB (negb b) = 1) ∨ (kindB b = 3 ∧ kindB (negb b) = 4) ∨ (kindB b = 4 ∧ kindB (negb b) = 3) ∨ (kindB b = 5 ∧ kindB (negb b) = 5) ∨ (kindB b = 6 ∧ kindB (negb b) = 6) := by
  obtain ⟨n1, n2⟩ := neg_facts b hb
  unfold kindB
  rw [n1, n2]
  by_cases h1 : 9218868437227405312 < rung b
  · simp [h1]
  · by_cases h2 : rung b = 9218868437227405312
    · cases ng b <;> simp [h2]
    · by_cases h3 : rung b = 0
      · cases ng b <;> simp [h3]
      · by_cases h4 : rung b < 4503599627370496 <;> simp [h1, h2, h3, h4]
set_option maxRecDepth 100000 in
theorem kinds5 (W : World) (a : Int) (ha : (Lit.int .u64 a).wf = true) : Calls Try.prog 5 #[.int .u64 a] W fun e W' => e = .returned (.bool true) ∧ Below W.heap.size W W' := by
  obtain ⟨b, rfl, hb⟩ := wf_u64 ha
  have h12 := x12
  clear ha
  have hb2 : negb b < 18446744073709551616 := Nat.xor_lt_two_pow (n := 64) hb (by decide)
  have hx : bits .xor .u64 (b : Int) 9223372036854775808 = ((negb b : Nat) : Int) := u64_xor_nat b 9223372036854775808 hb (by decide)
  obtain ⟨n1, n2⟩ := neg_facts b hb
  go_enter Try.func5, Try.ntmps5
  go_wp2_with fail
  refine (Kind19 b hb _).mono ?_
  rintro e _ ⟨rfl, rfl⟩
  go_wp2_with fail
  refine (Kind19 (negb b) hb2 _).mono ?_
  rintro e w1 ⟨rfl, rfl⟩
  have hB := (Below.refl w1.heap.size w1).alloc (Nat.le_refl _) (.cells #[.int .i64 0, .int .i64 2, .int .i64 1, .int .i64 4, .int .i64 3, .int .i64 5, .int .i64 6] 3)
  have hblk := Blk.here w1 3 #[.int .i64 0, .int .i64 2, .int .i64 1, .int .i64 4, .int .i64 3, .int .i64 5, .int .i64 6]
  have c0 := hblk.cell 0
  have c1 := hblk.cell 1
  have c2 := hblk.cell 2
  have c3 := hblk.cell 3
  have c4 := hblk.cell 4
  have c5 := hblk.cell 5
  have c6 := hblk.cell 6
  clear hblk
  go_wp2_with fail
  refine (Kind20 b hb _).mono ?_
  rintro e w3 ⟨rfl, rfl⟩
  rcases kinds_pair b hb with ⟨k1, k2⟩ | ⟨k1, k2⟩ | ⟨k1, k2⟩ | ⟨k1, k2⟩ | ⟨k1, k2⟩ | ⟨k1, k2⟩ | ⟨k1, k2⟩
  all_goals
    go_wp2_with fail
    refine (known16 _).mono ?_
    rintro e wz ⟨rfl, hwz⟩
    subst hwz
    go_wp2
    go_ret
    exact ⟨rfl, hB⟩
end Go.Proofs.Ytpkcabpnehbmhaa.GW
