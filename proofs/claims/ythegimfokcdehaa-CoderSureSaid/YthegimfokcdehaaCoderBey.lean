/- How far bytes are beyond a number, as the reference reckons it; that its choice is right. -/
import Derived.Test.YthegimfokcdehaaCoderRows
import Derived.Test.YthegimfokcdehaaCoderDec
namespace Go.Proofs.Ythegimfokcdehaa.CR
open Go Go.RowKit Go.Proofs.Ythegimfokcdehaa.Mem Go.Proofs.Ythegimfokcdehaa.CM Go.Proofs.Ythegimfokcdehaa.PCod Go.Proofs.YthegimfokcdehaaW.PrintWords Go.Proofs.YthegimfokcdehaaW.PrintLast
open Go.Proofs.Ythegimfokcdehaa.CW (kOK isP unpair decS kOK_whole)
set_option linter.unusedVariables false
set_option linter.unusedSimpArgs false
def G1 (g : Nat) : Nat → Prop := fun k => k = g
theorem only_some {α β γ δ ε : Type} {o : Option St} {P : Prop} {Q : St → α → β → γ → δ → ε → Prop} {v : St} (h : o = some v) (hd : (o = none ∧ P) ∨ ∃ u a b c d e, o = some u ∧ Q u a b c d e) : ∃ a b c d e, Q v a b c d e := by
  rcases hd with ⟨hn, _⟩ | ⟨u, a, b, c, d, e, hu, hq⟩
  · rw [h] at hn; cases hn
  · rw [h] at hu; injection hu with hu; subst hu; exact ⟨a, b, c, d, e, hq⟩
theorem only_none {α β γ δ ε : Type} {o : Option St} {P : Prop} {Q : St → α → β → γ → δ → ε → Prop} (h : o = none) (hd : (o = none ∧ P) ∨ ∃ u a b c d e, o = some u ∧ Q u a b c d e) : o = none ∧ P := by
  rcases hd with hd | ⟨u, a, b, c, d, e, hu, _⟩
  · exact hd
  · rw [h] at hu; cases hu
def bey : List Int → List Int → Int → Int → Int
  | x :: b, y :: n, r, d => if d * 256 + x - y < -r ∨ 2 * r < d * 256 + x - y then (if d * 256 + x - y < 0 then -1 else r) else bey b n r (d * 256 + x - y)
  | _, _, _, d => d
theorem bey_nil (b : List Int) (r d : Int) : bey b [] r d = d := by cases b <;> rfl
theorem val_cons (x : Int) (l : List Int) : val (x :: l) = x * pw l.length + val l := by
  have := val_append [x] l
  rw [List.singleton_append] at this
  rw [this]
  have h : val [x] = x := by show (0 : Int) * 256 + x = x; omega
  rw [h]
theorem bey_eq : ∀ (n b : List Int) (r d : Int), Dig b → Dig n → n.length ≤ b.length → 1 ≤ r → 0 ≤ d * pw n.length + val (b.take n.length) - val n → d * pw n.length + val (b.take n.length) - val n < r → bey b n r d = d * pw n.length + val (b.take n.length) - val n
  | [], b, r, d, hb, hn, hl, hr, h0, h1 => by
    rw [bey_nil, List.length_nil, pw_zero, List.take_zero, val_nil]
    omega
  | y :: n, [], r, d, hb, hn, hl, hr, h0, h1 => by simp at hl
  | y :: n, x :: b, r, d, hb, hn, hl, hr, h0, h1 => by
    rw [List.length_cons, List.take_succ_cons, val_cons, val_cons, List.length_take, Nat.min_eq_left (by simpa using hl), pw_succ] at h0 h1 ⊢
    have hb' : Dig b := fun z hz => hb z (List.mem_cons_of_mem _ hz)
    have hn' : Dig n := fun z hz => hn z (List.mem_cons_of_mem _ hz)
    have v1 := val_bound (b.take n.length) (fun z hz => hb' z (List.mem_of_mem_take hz))
    have v2 := val_bound n hn'
    rw [List.length_take, Nat.min_eq_left (by simpa using hl)] at v1
    have hp := pw_pos n.length
    have ih := bey_eq n b r (d * 256 + x - y) hb' hn' (by simpa using hl) hr
    generalize val (b.take n.length) = p at *
    generalize val n = q at *
    generalize pw n.length = P at *
    have e : d * (P * 256) + (x * P + p) - (y * P + q) = (d * 256 + x - y) * P + p - q := by grind
    rw [e] at h0 h1 ⊢
    rw [bey]
    generalize d * 256 + x - y = z at *
    have hz0 : 0 ≤ z := by
      rcases Int.lt_or_le z 0 with h | h
      · have := Int.mul_le_mul_of_nonneg_right (show z ≤ -1 by omega) (show 0 ≤ P by omega)
        omega
      · exact h
    have hz1 : z ≤ r := by
      rcases Int.lt_or_le z 1 with h | h
      · omega
      · have := Int.mul_le_mul_of_nonneg_left (show 1 ≤ P by omega) (show 0 ≤ z - 1 by omega)
        rw [Int.sub_mul, Int.sub_mul] at this
        omega
    rw [if_neg (by omega)]
    exact ih h0 h1
theorem share_bound {C : List (List Int)} (h : Mods C) {k s : Int} {p : Int × Int} (e : CM.share C k s = some p) : 0 ≤ s ∧ s < 65537 := by
  unfold CM.share at e
  split at e
  · rename_i hp
    split at e
    · rename_i hs
      have := bits_bound hp.1 hp.2
      omega
    · cases e
  · split at e
    · rename_i hk
      split at e
      · rename_i hs
        have := (h.at_ (show k.toNat < C.length by omega)).1.2.2.2
        omega
      · cases e
    · cases e
def gR (b : List Int) (t : St) (k : Int) : Option Int :=
  if b.length < t.L then none else if bey b (digs t.L t.V) t.R 0 < 0 then none else some (CM.findS t.C k (mn (bey b (digs t.L t.V) t.R 0 / (t.R / whole t.C k)) (whole t.C k - 1)))
theorem gR_right {b : List Int} (hb : Dig b) : Right b (gR b) := by
  intro t k s a n hI hL hsh h1 h2 h3 h4
  have hr0 := hI.r0
  have hr1 := hI.r1
  have hv := val_digs t.L t.V hI.v0 hI.lt
  have he := bey_eq (digs t.L t.V) b t.R 0 hb (digs_dig _ _) (by rw [digs_length]; exact hL) (by omega) (by rw [digs_length, hv]; omega) (by rw [digs_length, hv]; omega)
  rw [digs_length, hv] at he
  obtain ⟨_, _, _, han, _⟩ := share_some hI.mods hsh
  unfold gR
  rw [if_neg (by omega), he, if_neg (by omega), show (0 : Int) * pw t.L + val (b.take t.L) - t.V = val (b.take t.L) - t.V by omega]
  have hm : mn ((val (b.take t.L) - t.V) / (t.R / whole t.C k)) (whole t.C k - 1) = (val (b.take t.L) - t.V) / (t.R / whole t.C k) := by unfold mn; rw [if_neg (by omega)]
  rw [hm, find_share hI.mods hsh h3 h4]
theorem bey_bound : ∀ (n b : List Int) (r d : Int), 0 ≤ r → -r - 1 ≤ d → d ≤ 2 * r → -r - 1 ≤ bey b n r d ∧ bey b n r d ≤ 2 * r
  | [], b, r, d, hr, h0, h1 => by rw [bey_nil]; omega
  | y :: n, [], r, d, hr, h0, h1 => by rw [bey]; · omega
                                       · intros; contradiction
  | y :: n, x :: b, r, d, hr, h0, h1 => by
    rw [bey]
    split
    · split <;> omega
    · exact bey_bound n b r _ hr (by omega) (by omega)
theorem bey_l0 {b N : List Int} {R : Int} (hb : Dig b) (hN : Dig N) (hR0 : 0 ≤ R) (hR : R < 4294967296) (hl : N.length ≤ b.length) (hbl : b.length ≤ 100000) : ∀ (m i : Nat), N.length - i = m → i ≤ N.length → ∀ d, -R ≤ d → d ≤ 2 * R → Ev (fun k => lapidaryref06_beyond.l0 k b N R d (i : Int)) (bey (b.drop i) (N.drop i) R d) := by
  intro m
  induction m with
  | zero =>
    intro i h hi d h0 h1
    obtain rfl : i = N.length := by omega
    rw [List.drop_length, bey_nil]
    refine Ev.step (f := fun _ => some d) (fun k => ?_) (Ev.now _)
    simp only [lapidaryref06_beyond.l0]
    rw [if_neg (by omega)]
  | succ m ih =>
    intro i h hi d h0 h1
    have hrN : rd N (i : Int) = N[i]'(by omega) := by unfold rd; rw [Int.toNat_natCast, List.getD_eq_getElem?_getD, List.getElem?_eq_getElem (by omega)]; rfl
    have hrb : rd b (i : Int) = b[i]'(by omega) := by unfold rd; rw [Int.toNat_natCast, List.getD_eq_getElem?_getD, List.getElem?_eq_getElem (by omega)]; rfl
    have hx := hb (b[i]'(by omega)) (List.getElem_mem _)
    have hy := hN (N[i]'(by omega)) (List.getElem_mem _)
    rw [List.drop_eq_getElem_cons (show i < b.length by omega), List.drop_eq_getElem_cons (show i < N.length by omega)]
    have hi' := ih (i + 1) (by omega) (by omega)
    generalize b[i]'(by omega) = x at *
    generalize N[i]'(by omega) = y at *
    rw [bey]
    obtain ⟨e, he⟩ : ∃ e, d * 256 + x - y = e := ⟨_, rfl⟩
    have m1 := Lib.hid (show wrap64 (d * 256) = d * 256 from w64 (by omega) (by omega))
    have m2 := Lib.hid (show wrap64 x = x from w64 (by omega) (by omega))
    have m3 := Lib.hid (show wrap64 (d * 256 + x) = d * 256 + x from w64 (by omega) (by omega))
    have m4 := Lib.hid (show wrap64 (d * 256 + x - y) = e from by rw [w64 (by omega) (by omega), he])
    have m5 := Lib.hid (show wrap64 (-R) = -R from w64 (by omega) (by omega))
    have m6 := Lib.hid (show wrap64 (2 * R) = 2 * R from w64 (by omega) (by omega))
    have m7 := Lib.hid (show wrap64 ((i : Int) + 1) = ((i + 1 : Nat) : Int) from by rw [w64 (by omega) (by omega)]; rfl)
    rw [he]
    have hc : ∀ c : Bool, c = decide (e < -R ∨ 2 * R < e) → Ev (fun k => lapidaryref06_beyond.j1 k b N R e (i : Int) c) (if e < -R ∨ 2 * R < e then (if e < 0 then -1 else R) else bey (b.drop (i + 1)) (N.drop (i + 1)) R e) := by
      intro c hc
      subst hc
      by_cases ho : e < -R ∨ 2 * R < e
      · rw [if_pos ho]
        refine Ev.step (f := fun _ => some (if e < 0 then -1 else R)) (fun k => ?_) (Ev.now _)
        simp only [lapidaryref06_beyond.j1]
        rw [if_pos (decide_eq_true ho)]
        split <;> rfl
      · rw [if_neg ho]
        refine Ev.step (fun k => ?_) (hi' e (by omega) (by omega))
        simp only [lapidaryref06_beyond.j1]
        rw [if_neg (by rw [decide_eq_false ho]; decide), m7.out]
    by_cases hneg : e < 0
    · by_cases hlow : e < -R
      · refine Ev.step (fun k => ?_) (hc true (decide_eq_true (.inl hlow)).symm)
        simp only [lapidaryref06_beyond.l0]
        rw [if_pos (by omega), if_pos (by omega), if_pos (by omega), hrb, hrN, m1.out, m2.out, m3.out, m4.out, m5.out, if_pos hneg, if_pos hlow]
      · have hq : decide (e > 2 * R) = decide (e < -R ∨ 2 * R < e) := decide_eq_decide.2 ⟨fun h => .inr h, fun h => h.elim (fun h => absurd h hlow) id⟩
        refine Ev.step (fun k => ?_) (hc (decide (e > 2 * R)) hq)
        simp only [lapidaryref06_beyond.l0]
        rw [if_pos (by omega), if_pos (by omega), if_pos (by omega), hrb, hrN, m1.out, m2.out, m3.out, m4.out, m5.out, m6.out, if_pos hneg, if_neg hlow]
    · have hlow : ¬ e < -R := by omega
      have hq : decide (e > 2 * R) = decide (e < -R ∨ 2 * R < e) := decide_eq_decide.2 ⟨fun h => .inr h, fun h => h.elim (fun h => absurd h hlow) id⟩
      refine Ev.step (fun k => ?_) (hc (decide (e > 2 * R)) hq)
      simp only [lapidaryref06_beyond.l0]
      rw [if_pos (by omega), if_pos (by omega), if_pos (by omega), hrb, hrN, m1.out, m2.out, m3.out, m4.out, m6.out, if_neg hneg]
theorem bey_ev {b N : List Int} {R : Int} (hb : Dig b) (hN : Dig N) (hR0 : 0 ≤ R) (hR : R < 4294967296) (hbl : b.length ≤ 100000) : Ev (fun k => lapidaryref06_beyond.f k b N R) (if b.length < N.length then -1 else bey b N R 0) := by
  unfold lapidaryref06_beyond.f
  by_cases h : b.length < N.length
  · rw [if_pos h]
    simp only [if_pos (show (b.length : Int) < (N.length : Int) by omega)]
    exact Ev.now _
  · rw [if_neg h]
    simp only [if_neg (show ¬ (b.length : Int) < (N.length : Int) by omega)]
    exact bey_l0 hb hN hR0 hR (by omega) hbl _ 0 rfl (by omega) 0 (by omega) (by omega)
theorem kOK_iff {C : List (List Int)} (hC : Mods C) (k : Int) : kOK C.length k = decide (0 < whole C k) := by
  cases hk : kOK C.length k with
  | true => exact (decide_eq_true (kOK_whole hC rfl hk).1).symm
  | false =>
    refine (decide_eq_false fun hw => ?_).symm
    unfold kOK at hk
    rw [Bool.or_eq_false_iff] at hk
    unfold whole at hw
    split at hw
    · rename_i hp
      have : isP k = true := decide_eq_true hp
      rw [this] at hk
      cases hk.1
    · split at hw
      · rename_i hq
        rw [decide_eq_true hq.1, decide_eq_true hq.2] at hk
        cases hk.2
      · omega
theorem rfind_ev {C : List (List Int)} (h : Mods C) {k v : Int} (hk : 0 ≤ k) (hk1 : k < C.length) (h0 : 0 ≤ v) (h1 : v < whole C k) : Ev (fun j => lapidaryref05_Find.f j (C.getD k.toNat []) v) (CM.findS C k v, 0) := by
  have hO := (h.at_ (show k.toNat < C.length by omega)).1
  have := rfind hO v
  have hw : whole C k = (C.getD k.toNat []).sum := by
    unfold whole
    rw [if_neg (by unfold isPlain; omega), if_pos ⟨hk, hk1⟩]
  rw [hw] at h1
  unfold CR.findS at this
  rw [if_neg (by omega), if_neg (by omega)] at this
  unfold CM.findS
  rw [if_neg (by omega)]
  exact this
end Go.Proofs.Ythegimfokcdehaa.CR
