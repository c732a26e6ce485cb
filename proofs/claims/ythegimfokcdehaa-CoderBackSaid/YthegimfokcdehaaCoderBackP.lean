/- What the reader answers to bytes that are cut short, have one behind, or of which one is changed. -/
import Derived.Test.YthegimfokcdehaaCoderLaws2
import Derived.Laws.BitsAllLaws
namespace Go.Proofs.Ythegimfokcdehaa.CL
open Go Go.RowKit Go.Proofs.Ythegimfokcdehaa.CM Go.Proofs.Ythegimfokcdehaa.CW Go.Proofs.Ythegimfokcdehaa.PCod Go.Proofs.YthegimfokcdehaaW.PrintWords Go.Proofs.YthegimfokcdehaaW.PrintLast
set_option linter.unusedVariables false
set_option linter.unusedSimpArgs false
theorem no_prefix2 : ∀ (xs ys : List (Int × Int)) (t u v : St), SInv t → run t xs = some u → run t ys = some v → xs.map Prod.fst = ys.map Prod.fst → u.L ≤ v.L → digs u.L u.V = (digs v.L v.V).take u.L → xs = ys
  | [], [], _, _, _, _, _, _, _, _, _ => rfl
  | [], y :: ys, _, _, _, _, _, _, h, _, _ => by simp at h
  | x :: xs, [], _, _, _, _, _, _, h, _, _ => by simp at h
  | x :: xs, y :: ys, t, u, v, h, eu, ev, hk, hl, hd => by
    rw [run] at eu ev
    obtain ⟨t1, ht1, hr1⟩ := Option.bind_eq_some_iff.1 eu
    obtain ⟨t2, ht2, hr2⟩ := Option.bind_eq_some_iff.1 ev
    obtain ⟨a1, n1, hs1⟩ := step_some h ht1
    obtain ⟨a2, n2, hs2⟩ := step_some h ht2
    have hw1 := run_within xs hs1.inv hr1
    have hw2 := run_within ys hs2.inv hr2
    have hL1 := ((hs1.within h).trans hw1).l
    have hf1 := hs1.found h hw1
    have hf2 := hs2.found h hw2
    rw [List.map_cons, List.map_cons] at hk
    injection hk with hk1 hk2
    have hval : u.V = v.V / pw (v.L - u.L) := by
      have h1 := val_take (digs v.L v.V) (digs_dig _ _) u.L (by rw [digs_length]; exact hl)
      rw [← hd, digs_length, val_digs _ _ hw1.inv.v0 hw1.inv.lt, val_digs _ _ hw2.inv.v0 hw2.inv.lt] at h1
      exact h1
    have hpre : u.V / pw (u.L - t.L) = v.V / pw (v.L - t.L) := by
      rw [hval, show v.L - t.L = (v.L - u.L) + (u.L - t.L) by omega, pw_add, ← Int.ediv_ediv_of_nonneg (Int.le_of_lt (pw_pos _))]
    have hx : x.2 = y.2 := by
      have e1 := find_share h.mods hs1.sh hf1.1 hf1.2
      have e2 := find_share h.mods hs2.sh hf2.1 hf2.2
      rw [hpre, hk1] at e1
      rw [← e1, ← e2]
    have hxy : x = y := Prod.ext hk1 hx
    subst hxy
    rw [ht1] at ht2
    injection ht2 with ht2
    subst ht2
    rw [no_prefix2 xs ys t1 u v hs1.inv hr1 hr2 hk2 hl hd]
/-- The first digit is 0. -/
theorem first_zero2 {t : St} (h : SInv t) : (digs t.L t.V).length = t.L ∧ 5 ≤ t.L ∧ ∃ l, digs t.L t.V = 0 :: l := by
  have h5 := h.l5
  have htop := h.top
  have hr := h.r0
  refine ⟨digs_length _ _, h5, digs (t.L - 1) t.V, ?_⟩
  have h4 : t.V < pw (t.L - 1) := by
    have e : t.L - 1 = (t.L - 5) + 4 := by omega
    have hp : pw 4 = 4294967296 := by rw [pw_succ, pw_succ, pw_succ, pw_succ, pw_zero]; rfl
    rw [e, pw_add, hp]
    have := pw_pos (t.L - 5)
    omega
  refine (digs_eq (l := 0 :: digs (t.L - 1) t.V) ?_ ?_ ?_).symm
  · exact Dig.append (a := [0]) (.one (by omega) (by omega)) (digs_dig _ _)
  · rw [List.length_cons, digs_length]; omega
  · have := val_append [0] (digs (t.L - 1) t.V)
    rw [show [(0 : Int)] ++ digs (t.L - 1) t.V = 0 :: digs (t.L - 1) t.V from rfl, show val [0] = 0 from rfl, Int.zero_mul, Int.zero_add] at this
    rw [this, val_digs _ _ h.v0 h4]
theorem dec_err {sizes ms b : List Int} (hS : Sizes sizes) (hk : ms.all (kOK sizes.length) = true) (h : (decS sizes ms b).2 ≠ 0) : (decS sizes ms b).2 = 11 := by
  unfold decS at h ⊢
  rw [if_pos ⟨hS, hk⟩] at h ⊢
  split
  · rfl
  · rename_i xs hx
    rw [hx] at h
    exact absurd rfl h
theorem dec_prefix {sizes : List Int} {l : List S41} {u : St} {b : List Int} (hS : Sizes sizes) (hr : run (st0 (freshC sizes)) (pairs l) = some u) (hb : Dig b) (hp : b = (digs u.L u.V).take b.length ∨ ∃ x, b = digs u.L u.V ++ [x]) (hne : b ≠ digs u.L u.V) : (decS sizes (l.map S41.f0) b).2 = 11 := by
  refine dec_err hS (run_kOK hr) fun h0 => hne ?_
  obtain ⟨_, v, hv, hd, hf⟩ := dec_some (xs := (decS sizes (l.map S41.f0) b).1) hb (Prod.ext rfl h0)
  have hI := st0_inv (fresh_mods hS.2)
  have hfst : (pairs (decS sizes (l.map S41.f0) b).1).map Prod.fst = (pairs l).map Prod.fst := by rw [pairs_fst, pairs_fst, hf]
  have hbl : b.length = v.L := by rw [← hd, digs_length]
  have key : pairs (decS sizes (l.map S41.f0) b).1 = pairs l := by
    rcases hp with hp | ⟨x, hp⟩
    · refine no_prefix2 _ _ _ v u hI hv hr hfst ?_ ?_
      · have := congrArg List.length hp
        rw [List.length_take, digs_length] at this
        omega
      · rw [hd, ← hbl]; exact hp
    · refine (no_prefix2 _ _ _ u v hI hr hv hfst.symm ?_ ?_).symm
      · have := congrArg List.length hp
        rw [List.length_append, digs_length] at this
        omega
      · rw [hd, hp, List.take_left' (digs_length _ _)]
  rw [key, hr] at hv
  injection hv with hv
  rw [← hd, hv]
theorem dec_other {sizes : List Int} {l : List S41} {u : St} {b : List Int} {m : List S41} (hr : run (st0 (freshC sizes)) (pairs l) = some u) (hb : Dig b) (h : decS sizes (l.map S41.f0) b = (m, 0)) (hm : m = l) : b = digs u.L u.V := by
  obtain ⟨_, v, hv, hd, _⟩ := dec_some hb h
  rw [hm, hr] at hv
  injection hv with hv
  rw [← hd, hv]
theorem xor_u8 {a b : Int} (h0 : 0 ≤ a) (h1 : a < 256) (h2 : 0 ≤ b) (h3 : b < 256) : 0 ≤ bits .xor .u8 a b ∧ bits .xor .u8 a b < 256 ∧ (bits .xor .u8 a b = a ↔ b = 0) := by
  rw [u8_xor a b h0 h1 h2 h3]
  have hx : a.toNat ^^^ b.toNat < 2 ^ 8 := Nat.xor_lt_two_pow (by omega) (by omega)
  refine ⟨by omega, by omega, fun h => ?_, fun h => ?_⟩
  · have h4 : a.toNat ^^^ b.toNat = a.toNat := by omega
    have h5 : a.toNat ^^^ (a.toNat ^^^ b.toNat) = b.toNat := by rw [← Nat.xor_assoc, Nat.xor_self, Nat.zero_xor]
    rw [h4, Nat.xor_self] at h5
    omega
  · subst h
    rw [show (0 : Int).toNat = 0 from rfl, Nat.xor_zero]
    omega
/-- One byte is changed. -/
theorem set_xor {b : List Int} (hb : Dig b) {j : Nat} (hj : j < b.length) {x : Int} (h0 : 0 ≤ x) (h1 : x < 256) : Dig (b.set j (bits .xor .u8 (b.getD j 0) x)) ∧ (b.set j (bits .xor .u8 (b.getD j 0) x) = b ↔ x = 0) := by
  have hg : b.getD j 0 = b[j] := by rw [List.getD_eq_getElem?_getD, List.getElem?_eq_getElem hj]; rfl
  have hbj := hb b[j] (List.getElem_mem _)
  rw [hg]
  obtain ⟨h2, h3, h4⟩ := xor_u8 hbj.1 hbj.2 h0 h1
  refine ⟨fun y hy => ?_, fun h => ?_, fun h => ?_⟩
  · rcases List.mem_or_eq_of_mem_set hy with h | h
    · exact hb y h
    · rw [h]; exact ⟨h2, h3⟩
  · refine h4.1 ?_
    have := congrArg (fun l => l[j]?) h
    simp only [List.getElem?_set_self hj] at this
    rw [List.getElem?_eq_getElem hj] at this
    injection this
  · rw [h4.2 h, List.set_getElem_self]
instance : DecidableEq S41 := fun a b => decidable_of_iff (a.f0 = b.f0 ∧ a.f1 = b.f1) ⟨fun h => by cases a; cases b; cases h.1; cases h.2; rfl, fun h => by rw [h]; exact ⟨rfl, rfl⟩⟩
theorem ne_bool {a b : S41} : ((!(a.f0 == b.f0)) || (!(a.f1 == b.f1))) = decide (a ≠ b) := by
  by_cases h : a = b
  · subst h; simp
  · rw [decide_eq_true h]
    by_cases h0 : a.f0 = b.f0
    · have h1 : a.f1 ≠ b.f1 := fun h1 => h (by cases a; cases b; cases h0; cases h1; rfl)
      simp [h1]
    · simp [h0]
theorem sameG_l0 (a b : List S41) (hl : a.length = b.length) (ha : a.length ≤ 1000) : ∀ (d i : Nat), a.length - i = d → i ≤ a.length → Ev (fun k => lapidaryref06_Same.l0 k a b (i : Int)) (decide (a.drop i = b.drop i)) := by
  intro d
  induction d with
  | zero =>
    intro i h hi
    obtain rfl : i = a.length := by omega
    rw [List.drop_length, hl, List.drop_length]
    refine Ev.step (f := fun _ => some true) (fun k => ?_) (Ev.now _)
    simp only [lapidaryref06_Same.l0]
    rw [if_neg (by omega)]
  | succ d ih =>
    intro i h hi
    have hra : rd_T41 a (i : Int) = a[i]'(by omega) := by unfold rd_T41; rw [Int.toNat_natCast, List.getD_eq_getElem?_getD, List.getElem?_eq_getElem (by omega)]; rfl
    have hrb : rd_T41 b (i : Int) = b[i]'(by omega) := by unfold rd_T41; rw [Int.toNat_natCast, List.getD_eq_getElem?_getD, List.getElem?_eq_getElem (by omega)]; rfl
    rw [List.drop_eq_getElem_cons (show i < a.length by omega), List.drop_eq_getElem_cons (show i < b.length by omega)]
    by_cases he : a[i]'(by omega) = b[i]'(by omega)
    · refine Ev.step (fun k => ?_) (Ev.congr (f := fun k => lapidaryref06_Same.l0 k a b ((i + 1 : Nat) : Int)) (fun k => rfl) ?_)
      · simp only [lapidaryref06_Same.l0]
        rw [if_pos (by omega), if_pos (by omega), if_pos (by omega), hra, hrb, ne_bool, if_neg (by simp [he]), w64' (x := (i : Int) + 1) (by omega) (by omega)]
        rfl
      · rw [he]
        have := ih (i + 1) (by omega) (by omega)
        rwa [decide_eq_decide.2 (show a.drop (i + 1) = b.drop (i + 1) ↔ b[i]'(by omega) :: a.drop (i + 1) = b[i]'(by omega) :: b.drop (i + 1) from ⟨fun h => by rw [h], fun h => by injection h⟩)] at this
    · refine Ev.step (f := fun _ => some false) (fun k => ?_) ?_
      · simp only [lapidaryref06_Same.l0]
        rw [if_pos (by omega), if_pos (by omega), if_pos (by omega), hra, hrb, ne_bool, if_pos (decide_eq_true he)]
      · rw [decide_eq_false (fun h => he (by injection h))]
        exact Ev.now _
theorem sameG_ev (a b : List S41) (ha : a.length ≤ 1000) : Ev (fun k => lapidaryref06_Same.f k a b) (decide (a = b)) := by
  unfold lapidaryref06_Same.f
  by_cases hl : a.length = b.length
  · simp only [show (a.length : Int) = (b.length : Int) by omega, if_true]
    exact sameG_l0 a b hl ha _ 0 rfl (by omega)
  · simp only [if_neg (show ¬ (a.length : Int) = (b.length : Int) by omega)]
    rw [decide_eq_false (fun h => hl (by rw [h]))]
    exact Ev.now _
end Go.Proofs.Ythegimfokcdehaa.CL
