/- The plain side of the coder: shares, steps; ranges lie in each other; what is coded is read as it was, and no two of like models begin alike. -/
import Derived.Test.YthegimfokcdehaaModelPure
namespace Go.Proofs.Ythegimfokcdehaa.CM
set_option linter.unusedVariables false
set_option linter.unusedSimpArgs false
@[irreducible] def pw (n : Nat) : Int := 256 ^ n
theorem pw_zero : pw 0 = 1 := by unfold pw; rfl
theorem pw_succ (n : Nat) : pw (n + 1) = pw n * 256 := by unfold pw; rw [Int.pow_succ]
theorem pw_pos (n : Nat) : 0 < pw n := by
  induction n with
  | zero => rw [pw_zero]; omega
  | succ n ih => rw [pw_succ]; omega
theorem pw_add (a b : Nat) : pw (a + b) = pw a * pw b := by
  induction b with
  | zero => rw [Nat.add_zero, pw_zero, Int.mul_one]
  | succ b ih => rw [← Nat.add_assoc, pw_succ, pw_succ, ih, Int.mul_assoc]
theorem pw_two : pw 2 = 65536 := by rw [pw_succ, pw_succ, pw_zero]; rfl
theorem pw_one : pw 1 = 256 := by rw [pw_succ, pw_zero]; rfl
theorem snoc_ind {P : List Int → Prop} (h0 : P []) (h1 : ∀ b x, P b → P (b ++ [x])) (l : List Int) : P l := by
  have h : ∀ r : List Int, P r.reverse := by
    intro r
    induction r with
    | nil => exact h0
    | cons x r ih => rw [List.reverse_cons]; exact h1 _ _ ih
  have := h l.reverse
  rwa [List.reverse_reverse] at this
def Dig (l : List Int) : Prop := ∀ x ∈ l, 0 ≤ x ∧ x < 256
def val (l : List Int) : Int := l.foldl (fun d x => d * 256 + x) 0
theorem val_nil : val [] = 0 := rfl
theorem val_snoc (l : List Int) (x : Int) : val (l ++ [x]) = val l * 256 + x := by unfold val; rw [List.foldl_append]; rfl
theorem val_append (a : List Int) : ∀ b : List Int, val (a ++ b) = val a * pw b.length + val b := by
  refine snoc_ind ?_ ?_
  · rw [List.append_nil, List.length_nil, pw_zero, val_nil]; omega
  · intro b x ih
    rw [← List.append_assoc, val_snoc, val_snoc, ih, List.length_append, List.length_singleton, pw_succ]
    grind
theorem Dig.nil : Dig [] := fun x hx => by simp at hx
theorem Dig.append {a b : List Int} (ha : Dig a) (hb : Dig b) : Dig (a ++ b) := fun x hx => by
  rcases List.mem_append.1 hx with h | h
  · exact ha x h
  · exact hb x h
theorem Dig.left {a b : List Int} (h : Dig (a ++ b)) : Dig a := fun x hx => h x (List.mem_append.2 (.inl hx))
theorem Dig.right {a b : List Int} (h : Dig (a ++ b)) : Dig b := fun x hx => h x (List.mem_append.2 (.inr hx))
theorem Dig.one {x : Int} (h0 : 0 ≤ x) (h1 : x < 256) : Dig [x] := fun y hy => by rw [List.mem_singleton] at hy; subst hy; exact ⟨h0, h1⟩
theorem Dig.rep (n : Nat) {x : Int} (h0 : 0 ≤ x) (h1 : x < 256) : Dig (List.replicate n x) := fun y hy => by rw [List.eq_of_mem_replicate hy]; exact ⟨h0, h1⟩
theorem val_bound : ∀ l : List Int, Dig l → 0 ≤ val l ∧ val l < pw l.length := by
  refine snoc_ind ?_ ?_
  · intro _; rw [val_nil, List.length_nil, pw_zero]; omega
  · intro b x ih h
    have h1 := ih h.left
    have h2 := h.right x (List.mem_singleton.2 rfl)
    rw [val_snoc, List.length_append, List.length_singleton, pw_succ]
    omega
def digs : Nat → Int → List Int
  | 0, _ => []
  | n + 1, v => digs n (v / 256) ++ [v % 256]
theorem digs_length : ∀ (n : Nat) (v : Int), (digs n v).length = n
  | 0, _ => rfl
  | n + 1, v => by rw [digs, List.length_append, digs_length n]; rfl
theorem digs_dig : ∀ (n : Nat) (v : Int), Dig (digs n v)
  | 0, _ => .nil
  | n + 1, v => by rw [digs]; exact (digs_dig n _).append (.one (by omega) (by omega))
theorem digs_val : ∀ l : List Int, Dig l → digs l.length (val l) = l := by
  refine snoc_ind ?_ ?_
  · intro _; rfl
  · intro b x ih h
    have h2 := h.right x (List.mem_singleton.2 rfl)
    rw [val_snoc, List.length_append, List.length_singleton, digs, show (val b * 256 + x) / 256 = val b by omega, show (val b * 256 + x) % 256 = x by omega, ih h.left]
theorem val_digs : ∀ (n : Nat) (v : Int), 0 ≤ v → v < pw n → val (digs n v) = v
  | 0, v, h0, h1 => by rw [pw_zero] at h1; rw [digs, val_nil]; omega
  | n + 1, v, h0, h1 => by
    rw [pw_succ] at h1
    rw [digs, val_snoc, val_digs n (v / 256) (by omega) (by omega)]
    omega
theorem digs_eq {l : List Int} (h : Dig l) {n : Nat} {v : Int} (hn : l.length = n) (hv : val l = v) : l = digs n v := by subst hn; subst hv; exact (digs_val l h).symm
theorem val_take (l : List Int) (h : Dig l) (k : Nat) (hk : k ≤ l.length) : val (l.take k) = val l / pw (l.length - k) := by
  have h1 := val_append (l.take k) (l.drop k)
  rw [List.take_append_drop, List.length_drop] at h1
  have h2 := val_bound (l.drop k) (fun x hx => h x (List.mem_of_mem_drop hx))
  rw [List.length_drop] at h2
  have h3 := pw_pos (l.length - k)
  rw [h1]
  generalize pw (l.length - k) = p at *
  rw [Int.add_comm, Int.add_mul_ediv_right _ _ (by omega), Int.ediv_eq_zero_of_lt h2.1 h2.2]
  omega
def sh (o : List Int) (c : Int) (h : Nat) (l : Int) : List Int × Int × Nat × Int :=
  if l < 4278190080 ∨ 4294967296 ≤ l then
    ((if 0 < h then o ++ [(c + l / 4294967296) % 256] else o) ++ List.replicate (h - 1) ((255 + l / 4294967296) % 256), l / 16777216 % 256, 1, l % 16777216 * 256)
  else (o, c, h + 1, l % 16777216 * 256)
structure Wr (o : List Int) (c : Int) (h : Nat) (l : Int) (V : Int) (L : Nat) : Prop where
  dig : Dig o
  c0 : 0 ≤ c
  c1 : c < 256
  h1 : 1 ≤ h
  l0 : 0 ≤ l
  l1 : l < 8589934592
  len : L = o.length + h + 4
  num : V = val (o ++ [c] ++ List.replicate (h - 1) 255) * 4294967296 + l
  car : c = 255 → l < 4294967296
theorem val_rep_zero (a : List Int) : ∀ n : Nat, val (a ++ List.replicate n 0) = val a * pw n
  | 0 => by rw [List.replicate_zero, List.append_nil, pw_zero]; omega
  | n + 1 => by rw [List.replicate_succ', ← List.append_assoc, val_snoc, val_rep_zero a n, pw_succ]; grind
theorem val_rep_max (a : List Int) : ∀ n : Nat, val (a ++ List.replicate n 255) = val a * pw n + (pw n - 1)
  | 0 => by rw [List.replicate_zero, List.append_nil, pw_zero]; omega
  | n + 1 => by rw [List.replicate_succ', ← List.append_assoc, val_snoc, val_rep_max a n, pw_succ]; grind
theorem Wr.sh {o : List Int} {c : Int} {h : Nat} {l V : Int} {L : Nat} (w : Wr o c h l V L) :
    Wr (sh o c h l).1 (sh o c h l).2.1 (sh o c h l).2.2.1 (sh o c h l).2.2.2 (V * 256) (L + 1) ∧ (sh o c h l).2.2.2 < 4294967296 := by
  obtain ⟨dig, c0, c1, h1, l0, l1, len, num, car⟩ := w
  unfold CM.sh
  by_cases hc : l < 4278190080 ∨ 4294967296 ≤ l
  · rw [if_pos hc]
    simp only [if_pos (show 0 < h by omega)]
    by_cases hb : 4294967296 ≤ l
    · have e1 : l / 4294967296 = 1 := by omega
      have hc255 : c ≠ 255 := fun h => by have := car h; omega
      rw [e1, show ((255 : Int) + 1) % 256 = 0 by rfl, show (c + 1) % 256 = c + 1 by omega]
      refine ⟨⟨(dig.append (.one (by omega) (by omega))).append (.rep _ (by omega) (by omega)), by omega, by omega, by omega, by omega, by omega, ?_, ?_, fun _ => by omega⟩, by omega⟩
      · rw [List.length_append, List.length_append, List.length_replicate, List.length_singleton]; omega
      · rw [num, val_rep_max, val_snoc, show (1 : Nat) - 1 = 0 from rfl, List.replicate_zero, List.append_nil, val_snoc, val_rep_zero, val_snoc]
        generalize pw (h - 1) = p
        generalize val o = v
        have e2 : l = 4294967296 + (l / 16777216 % 256) * 16777216 + l % 16777216 := by omega
        generalize l / 16777216 % 256 = t at *
        generalize l % 16777216 = r at *
        subst e2
        grind
    · have e1 : l / 4294967296 = 0 := by omega
      rw [e1, show ((255 : Int) + 0) % 256 = 255 by rfl, show (c + 0) % 256 = c by omega]
      refine ⟨⟨(dig.append (.one (by omega) (by omega))).append (.rep _ (by omega) (by omega)), by omega, by omega, by omega, by omega, by omega, ?_, ?_, fun _ => by omega⟩, by omega⟩
      · rw [List.length_append, List.length_append, List.length_replicate, List.length_singleton]; omega
      · rw [num, val_rep_max, val_snoc, show (1 : Nat) - 1 = 0 from rfl, List.replicate_zero, List.append_nil, val_snoc, val_rep_max, val_snoc]
        generalize pw (h - 1) = p
        generalize val o = v
        have e2 : l = (l / 16777216 % 256) * 16777216 + l % 16777216 := by omega
        generalize l / 16777216 % 256 = t at *
        generalize l % 16777216 = r at *
        subst e2
        grind
  · rw [if_neg hc]
    refine ⟨⟨dig, c0, c1, by show 1 ≤ h + 1; omega, by show 0 ≤ l % 16777216 * 256; omega, by show l % 16777216 * 256 < 8589934592; omega, by show L + 1 = o.length + (h + 1) + 4; omega, ?_, fun _ => by show l % 16777216 * 256 < 4294967296; omega⟩, by show l % 16777216 * 256 < 4294967296; omega⟩
    show V * 256 = val (o ++ [c] ++ List.replicate (h + 1 - 1) 255) * 4294967296 + l % 16777216 * 256
    rw [num, val_rep_max, val_snoc, val_rep_max, val_snoc, show h + 1 - 1 = (h - 1) + 1 by omega, pw_succ]
    generalize pw (h - 1) = p
    generalize val o = v
    have e2 : l = 255 * 16777216 + l % 16777216 := by omega
    generalize l % 16777216 = r at *
    subst e2
    grind
def shs : Nat → List Int × Int × Nat × Int → List Int × Int × Nat × Int
  | 0, s => s
  | n + 1, s => shs n (sh s.1 s.2.1 s.2.2.1 s.2.2.2)
theorem Wr.shs : ∀ (n : Nat) {o : List Int} {c : Int} {h : Nat} {l V : Int} {L : Nat}, Wr o c h l V L →
    Wr (shs n (o, c, h, l)).1 (shs n (o, c, h, l)).2.1 (shs n (o, c, h, l)).2.2.1 (shs n (o, c, h, l)).2.2.2 (V * pw n) (L + n)
  | 0, o, c, h, l, V, L, w => by rw [pw_zero, Int.mul_one]; exact w
  | n + 1, o, c, h, l, V, L, w => by
    have h1 := Wr.shs n w.sh.1
    rw [show V * pw (n + 1) = V * 256 * pw n by rw [pw_succ]; grind, show L + (n + 1) = L + 1 + n by omega]
    exact h1
theorem sh_low (o : List Int) (c : Int) (h : Nat) (l : Int) : (sh o c h l).2.2.2 = l % 16777216 * 256 := by unfold sh; split <;> rfl
theorem Wr.ends {o : List Int} {c : Int} {h : Nat} {l V : Int} {L : Nat} (w : Wr o c h l V L) : (CM.shs 5 (o, c, h, l)).1 = digs L V := by
  have h5 := w.shs 5
  have h4 := w.shs 4
  have e : CM.shs 5 (o, c, h, l) = CM.sh (CM.shs 4 (o, c, h, l)).1 (CM.shs 4 (o, c, h, l)).2.1 (CM.shs 4 (o, c, h, l)).2.2.1 (CM.shs 4 (o, c, h, l)).2.2.2 := rfl
  have hl : (CM.shs 4 (o, c, h, l)).2.2.2 = 0 := by
    simp only [CM.shs, sh_low]
    omega
  rw [e] at h5 ⊢
  generalize CM.shs 4 (o, c, h, l) = s at *
  obtain ⟨o4, c4, h4', l4⟩ := s
  simp only at hl
  subst hl
  have hs : CM.sh o4 c4 h4' 0 = ((if 0 < h4' then o4 ++ [(c4 + 0 / 4294967296) % 256] else o4) ++ List.replicate (h4' - 1) ((255 + 0 / 4294967296) % 256), 0 / 16777216 % 256, 1, 0 % 16777216 * 256) := by
    unfold CM.sh
    rw [if_pos (by omega)]
  simp only [hs] at h5 ⊢
  generalize (if 0 < h4' then o4 ++ [(c4 + 0 / 4294967296) % 256] else o4) ++ List.replicate (h4' - 1) ((255 + 0 / 4294967296) % 256) = out at *
  obtain ⟨dig, c0, c1, h1, l0, l1, len, num, car⟩ := h5
  have hp : pw 5 = 1099511627776 := by rw [pw_succ, pw_succ, pw_succ, pw_succ, pw_succ, pw_zero]; rfl
  rw [hp, show (1 : Nat) - 1 = 0 from rfl, List.replicate_zero, List.append_nil, val_snoc] at num
  exact digs_eq dig (by omega) (by omega)
end Go.Proofs.Ythegimfokcdehaa.CM
namespace Go.Proofs.Ythegimfokcdehaa.CM
open Go.Proofs.Ythegimfokcdehaa.MW (Ok cnt cntI Inv findL sum_nonneg)
set_option linter.unusedVariables false
set_option linter.unusedSimpArgs false
def bits (k : Int) : Int := 2 ^ (-k).toNat
theorem bits_bound {k : Int} (h0 : k < 0) (h1 : -16 ≤ k) : 2 ≤ bits k ∧ bits k ≤ 65536 := by
  unfold bits
  obtain ⟨n, hn⟩ : ∃ n : Nat, (-k).toNat = n := ⟨_, rfl⟩
  rw [hn]
  have h2 : 1 ≤ n := by omega
  have h3 : n ≤ 16 := by omega
  clear hn h0 h1
  have : n = 1 ∨ n = 2 ∨ n = 3 ∨ n = 4 ∨ n = 5 ∨ n = 6 ∨ n = 7 ∨ n = 8 ∨ n = 9 ∨ n = 10 ∨ n = 11 ∨ n = 12 ∨ n = 13 ∨ n = 14 ∨ n = 15 ∨ n = 16 := by omega
  rcases this with rfl | rfl | rfl | rfl | rfl | rfl | rfl | rfl | rfl | rfl | rfl | rfl | rfl | rfl | rfl | rfl <;> decide
def Mods (C : List (List Int)) : Prop := ∀ c ∈ C, Ok c.length c ∧ 1 ≤ c.length
def isPlain (k : Int) : Prop := k < 0 ∧ -16 ≤ k
instance (k : Int) : Decidable (isPlain k) := by unfold isPlain; infer_instance
def whole (C : List (List Int)) (k : Int) : Int := if isPlain k then bits k else if 0 ≤ k ∧ k < C.length then (C.getD k.toNat []).sum else 0
def share (C : List (List Int)) (k s : Int) : Option (Int × Int) :=
  if isPlain k then (if 0 ≤ s ∧ s < bits k then some (s, 1) else none)
  else if 0 ≤ k ∧ k < C.length then (if 0 ≤ s ∧ s < (C.getD k.toNat []).length then some (((C.getD k.toNat []).take s.toNat).sum, (C.getD k.toNat []).getD s.toNat 0) else none)
  else none
theorem Mods.at_ {C : List (List Int)} (h : Mods C) {k : Nat} (hk : k < C.length) : Ok (C.getD k []).length (C.getD k []) ∧ 1 ≤ (C.getD k []).length := by
  have : C.getD k [] = C[k] := by rw [List.getD_eq_getElem?_getD, List.getElem?_eq_getElem hk]; rfl
  rw [this]
  exact h _ (List.getElem_mem hk)
theorem sum_ge_len : ∀ l : List Int, (∀ c ∈ l, 1 ≤ c) → (l.length : Int) ≤ l.sum
  | [], _ => by simp
  | c :: l, h => by
    have h1 := sum_ge_len l (fun d hd => h d (List.mem_cons_of_mem _ hd))
    have h2 := h c (List.mem_cons_self ..)
    rw [List.sum_cons, List.length_cons]
    omega
theorem sum_split (cs : List Int) (s : Nat) (hs : s < cs.length) : cs.sum = (cs.take s).sum + cs.getD s 0 + (cs.drop (s + 1)).sum := by
  have hg : cs.getD s 0 = cs[s] := by rw [List.getD_eq_getElem?_getD, List.getElem?_eq_getElem hs]; rfl
  have h1 : cs.sum = (cs.take s).sum + (cs.drop s).sum := by rw [← List.sum_append, List.take_append_drop]
  rw [List.drop_eq_getElem_cons hs, List.sum_cons] at h1
  rw [hg]
  omega
theorem share_some {C : List (List Int)} (h : Mods C) {k s a n : Int} (e : share C k s = some (a, n)) :
    0 ≤ s ∧ 0 ≤ a ∧ 1 ≤ n ∧ a + n ≤ whole C k ∧ 1 ≤ whole C k ∧ whole C k ≤ 65536 ∧ (isPlain k ∨ 0 ≤ k ∧ k < C.length ∧ s < (C.getD k.toNat []).length) := by
  unfold share at e
  unfold whole
  by_cases hp : isPlain k
  · rw [if_pos hp] at e ⊢
    have hb := bits_bound hp.1 hp.2
    by_cases hs : 0 ≤ s ∧ s < bits k
    · rw [if_pos hs] at e
      injection e with e
      injection e with e1 e2
      subst e1
      subst e2
      exact ⟨hs.1, hs.1, by omega, by omega, by omega, by omega, .inl hp⟩
    · rw [if_neg hs] at e
      cases e
  · rw [if_neg hp] at e ⊢
    by_cases hk : 0 ≤ k ∧ k < C.length
    · rw [if_pos hk] at e ⊢
      obtain ⟨ho, h1⟩ := h.at_ (k := k.toNat) (by omega)
      generalize C.getD k.toNat [] = c at *
      by_cases hs : 0 ≤ s ∧ s < c.length
      · rw [if_pos hs] at e
        injection e with e
        injection e with e1 e2
        have hsp := sum_split c s.toNat (by omega)
        have hd := sum_nonneg (c.drop (s.toNat + 1)) (fun x hx => ho.1 x (List.mem_of_mem_drop hx))
        have ht := sum_nonneg (c.take s.toNat) (fun x hx => ho.1 x (List.mem_of_mem_take hx))
        have hg : c.getD s.toNat 0 = c[s.toNat]'(by omega) := by rw [List.getD_eq_getElem?_getD, List.getElem?_eq_getElem (by omega)]; rfl
        have hm := ho.1 (c[s.toNat]'(by omega)) (List.getElem_mem _)
        have hsum := ho.2.1
        rw [← hg] at hm
        exact ⟨hs.1, by omega, by omega, by omega, by omega, by omega, .inr ⟨hk.1, hk.2, hs.2⟩⟩
      · rw [if_neg hs] at e
        cases e
    · rw [if_neg hk] at e
      cases e
def findS (C : List (List Int)) (k v : Int) : Int := if k < 0 then v else findL (C.getD k.toNat []) 0 v
theorem findL_at : ∀ (c : List Int) (i v : Int) (s : Nat), (∀ x ∈ c, 1 ≤ x) → s < c.length → (c.take s).sum ≤ v → v < (c.take s).sum + c.getD s 0 → findL c i v = i + s
  | [], _, _, _, _, h, _, _ => by simp at h
  | c :: cs, i, v, 0, hp, _, h0, h1 => by
    simp at h0 h1
    rw [findL, if_pos h1]
    simp
  | c :: cs, i, v, s + 1, hp, hs, h0, h1 => by
    rw [List.take_succ_cons, List.sum_cons] at h0 h1
    rw [List.getD_cons_succ] at h1
    have hn := sum_nonneg (cs.take s) (fun x hx => hp x (List.mem_cons_of_mem _ (List.mem_of_mem_take hx)))
    rw [findL, if_neg (by omega), findL_at cs (i + 1) (v - c) s (fun x hx => hp x (List.mem_cons_of_mem _ hx)) (by simpa using hs) (by omega) (by omega)]
    push_cast
    omega
theorem find_share {C : List (List Int)} (h : Mods C) {k s a n v : Int} (e : share C k s = some (a, n)) (h0 : a ≤ v) (h1 : v < a + n) : findS C k v = s := by
  have hs := share_some h e
  unfold share at e
  unfold findS
  by_cases hp : isPlain k
  · rw [if_pos hp] at e
    by_cases hs : 0 ≤ s ∧ s < bits k
    · rw [if_pos hs] at e
      injection e with e
      injection e with e1 e2
      rw [if_pos hp.1]
      omega
    · rw [if_neg hs] at e
      cases e
  · rw [if_neg hp] at e
    by_cases hk : 0 ≤ k ∧ k < C.length
    · rw [if_pos hk] at e
      obtain ⟨ho, _⟩ := h.at_ (k := k.toNat) (by omega)
      rw [if_neg (by omega)]
      generalize C.getD k.toNat [] = c at *
      by_cases hs : 0 ≤ s ∧ s < c.length
      · rw [if_pos hs] at e
        injection e with e
        injection e with e1 e2
        rw [findL_at c 0 v s.toNat ho.1 (by omega) (by omega) (by omega)]
        omega
      · rw [if_neg hs] at e
        cases e
    · rw [if_neg hk] at e
      cases e
theorem findL_some : ∀ (c : List Int) (i v : Int), (∀ x ∈ c, 1 ≤ x) → 0 ≤ v → v < c.sum → ∃ s : Nat, s < c.length ∧ findL c i v = i + s ∧ (c.take s).sum ≤ v ∧ v < (c.take s).sum + c.getD s 0
  | [], _, v, _, h0, h1 => by simp at h1; omega
  | c :: cs, i, v, hp, h0, h1 => by
    rw [List.sum_cons] at h1
    by_cases hv : v < c
    · exact ⟨0, by simp, by rw [findL, if_pos hv]; simp, by simpa using h0, by simpa using hv⟩
    · obtain ⟨s, h2, h3, h4, h5⟩ := findL_some cs (i + 1) (v - c) (fun x hx => hp x (List.mem_cons_of_mem _ hx)) (by omega) (by omega)
      refine ⟨s + 1, by simpa using h2, by rw [findL, if_neg hv, h3]; push_cast; omega, ?_, ?_⟩
      · rw [List.take_succ_cons, List.sum_cons]; omega
      · rw [List.take_succ_cons, List.sum_cons, List.getD_cons_succ]; omega
theorem find_some {C : List (List Int)} (h : Mods C) {k v : Int} (hw : 0 < whole C k) (h0 : 0 ≤ v) (h1 : v < whole C k) : ∃ a n, share C k (findS C k v) = some (a, n) ∧ a ≤ v ∧ v < a + n := by
  unfold whole at hw h1
  unfold share findS
  by_cases hp : isPlain k
  · rw [if_pos hp] at hw h1 ⊢
    rw [if_pos hp.1, if_pos ⟨h0, h1⟩]
    exact ⟨v, 1, rfl, by omega, by omega⟩
  · rw [if_neg hp] at hw h1 ⊢
    by_cases hk : 0 ≤ k ∧ k < C.length
    · rw [if_pos hk] at hw h1 ⊢
      obtain ⟨ho, _⟩ := h.at_ (k := k.toNat) (by omega)
      rw [if_neg (show ¬ k < 0 by omega)]
      generalize C.getD k.toNat [] = c at *
      obtain ⟨s, h2, h3, h4, h5⟩ := findL_some c 0 v ho.1 h0 h1
      rw [h3, if_pos ⟨by omega, by omega⟩]
      refine ⟨_, _, rfl, ?_, ?_⟩
      · rw [show ((0 : Int) + s).toNat = s by omega]; exact h4
      · rw [show ((0 : Int) + s).toNat = s by omega]; exact h5
    · rw [if_neg hk] at hw
      omega
structure St where
  C : List (List Int)
  R : Int
  V : Int
  L : Nat
def cntC (C : List (List Int)) (k s : Int) : List (List Int) := if 0 ≤ k then C.set k.toNat (cntI (C.getD k.toNat []) s) else C
def many (R : Int) : Nat := if R < 65536 then 2 else if R < 16777216 then 1 else 0
def step (t : St) (x : Int × Int) : Option St :=
  (share t.C x.1 x.2).map fun p => ⟨cntC t.C x.1 x.2, t.R / whole t.C x.1 * p.2 * pw (many (t.R / whole t.C x.1 * p.2)), (t.V + t.R / whole t.C x.1 * p.1) * pw (many (t.R / whole t.C x.1 * p.2)), t.L + many (t.R / whole t.C x.1 * p.2)⟩
structure SInv (t : St) : Prop where
  mods : Mods t.C
  r0 : 16777216 ≤ t.R
  r1 : t.R < 4294967296
  v0 : 0 ≤ t.V
  l5 : 5 ≤ t.L
  top : t.V + t.R ≤ 4294967295 * pw (t.L - 5)
theorem many_mul {R : Int} (h0 : 256 ≤ R) (h1 : R < 4294967296) : 16777216 ≤ R * pw (many R) ∧ R * pw (many R) < 4294967296 := by
  unfold many
  by_cases a : R < 65536
  · rw [if_pos a, pw_two]; omega
  · rw [if_neg a]
    by_cases b : R < 16777216
    · rw [if_pos b, pw_one]; omega
    · rw [if_neg b, pw_zero]; omega
theorem mods_cnt {C : List (List Int)} (h : Mods C) {k s a n : Int} (e : share C k s = some (a, n)) : Mods (cntC C k s) := by
  have hs := share_some h e
  unfold cntC
  by_cases hk : 0 ≤ k
  · rw [if_pos hk]
    rcases hs.2.2.2.2.2.2 with hp | ⟨_, h1, h2⟩
    · exact absurd hp.1 (by omega)
    · intro c hc
      rcases List.mem_or_eq_of_mem_set hc with hc | rfl
      · exact h c hc
      · obtain ⟨ho, hl⟩ := h.at_ (k := k.toNat) (by omega)
        have hst := (ho.step (s := s.toNat) (by omega)).2.2
        unfold cntI
        rw [hst.2.2.1]
        exact ⟨hst, hl⟩
  · rw [if_neg hk]
    exact h
theorem cnt_length (c : List Int) (s : Nat) : (cnt c s).length = c.length := by
  unfold cnt MW.halfL
  split <;> simp
theorem cntC_lens (C : List (List Int)) (k s : Int) : (cntC C k s).map List.length = C.map List.length := by
  unfold cntC
  by_cases hk : 0 ≤ k
  · rw [if_pos hk]
    apply List.ext_getElem?
    intro i
    rw [List.getElem?_map, List.getElem?_map, List.getElem?_set]
    by_cases hi : k.toNat = i
    · rw [if_pos hi]
      subst hi
      by_cases hl : k.toNat < C.length
      · rw [if_pos hl, List.getElem?_eq_getElem hl, Option.map_some, Option.map_some]
        unfold cntI
        rw [cnt_length, List.getD_eq_getElem?_getD, List.getElem?_eq_getElem hl]
        rfl
      · rw [if_neg hl, List.getElem?_eq_none (by omega)]
    · rw [if_neg hi]
  · rw [if_neg hk]
structure Stepped (t u : St) (x : Int × Int) (a n : Int) : Prop where
  sh : share t.C x.1 x.2 = some (a, n)
  inv : SInv u
  c : u.C = cntC t.C x.1 x.2
  q256 : 256 ≤ t.R / whole t.C x.1 * n
  q1 : 1 ≤ t.R / whole t.C x.1
  qle : t.R / whole t.C x.1 * (a + n) ≤ t.R
  r : u.R = t.R / whole t.C x.1 * n * pw (u.L - t.L)
  v : u.V = (t.V + t.R / whole t.C x.1 * a) * pw (u.L - t.L)
  l : u.L = t.L + many (t.R / whole t.C x.1 * n)
  l0 : t.L ≤ u.L
theorem mul_le_of {a b c : Int} (h : a ≤ b) (hc : 0 ≤ c) : c * a ≤ c * b := Int.mul_le_mul_of_nonneg_left h hc
theorem step_some {t u : St} (h : SInv t) {x : Int × Int} (e : step t x = some u) : ∃ a n, Stepped t u x a n := by
  unfold step at e
  obtain ⟨p, hp, hu⟩ := Option.map_eq_some_iff.1 e
  obtain ⟨a, n⟩ := p
  obtain ⟨s0, a0, n1, an, w1, w2, _⟩ := share_some h.mods hp
  have r0 := h.r0
  have r1 := h.r1
  have v0 := h.v0
  have l5 := h.l5
  have htop := h.top
  have hmods := mods_cnt h.mods hp
  simp only at hu
  generalize hw : whole t.C x.1 = w at *
  have hq : 256 ≤ t.R / w := by
    rw [Int.le_ediv_iff_mul_le (by omega)]
    omega
  have hqw : t.R / w * w ≤ t.R := Int.ediv_mul_le _ (by omega)
  generalize hqq : t.R / w = q at *
  have hqn : 256 ≤ q * n := by
    have := mul_le_of n1 (show 0 ≤ q by omega)
    omega
  have hqan : q * (a + n) ≤ t.R := by
    have := mul_le_of an (show 0 ≤ q by omega)
    omega
  have hqa0 : 0 ≤ q * a := Int.mul_nonneg (by omega) a0
  have hexp : q * (a + n) = q * a + q * n := Int.mul_add _ _ _
  have hm := many_mul (R := q * n) hqn (by omega)
  subst hu
  refine ⟨a, n, ⟨hp, ⟨hmods, hm.1, hm.2, ?_, by show 5 ≤ t.L + _; omega, ?_⟩, rfl, by rw [hw, hqq]; exact hqn, by rw [hw, hqq]; omega, by rw [hw, hqq]; exact hqan, ?_, ?_, by simp only [hw, hqq], by show t.L ≤ t.L + _; omega⟩⟩
  · exact Int.mul_nonneg (by omega) (Int.le_of_lt (pw_pos _))
  · show (t.V + q * a) * pw (many (q * n)) + q * n * pw (many (q * n)) ≤ 4294967295 * pw (t.L + many (q * n) - 5)
    rw [show t.L + many (q * n) - 5 = t.L - 5 + many (q * n) by omega, pw_add, ← Int.add_mul]
    have hp := pw_pos (many (q * n))
    generalize pw (many (q * n)) = P at *
    generalize pw (t.L - 5) = Q at *
    have : (t.V + q * a + q * n) * P ≤ 4294967295 * Q * P := Int.mul_le_mul_of_nonneg_right (by omega) (by omega)
    rw [Int.mul_assoc] at this
    exact this
  · simp only [hw, hqq, Nat.add_sub_cancel_left]
  · simp only [hw, hqq, Nat.add_sub_cancel_left]
def run : St → List (Int × Int) → Option St
  | t, [] => some t
  | t, x :: xs => (step t x).bind fun u => run u xs
structure Within (t u : St) : Prop where
  inv : SInv u
  l : t.L ≤ u.L
  lo : t.V * pw (u.L - t.L) ≤ u.V
  hi : u.V + u.R ≤ (t.V + t.R) * pw (u.L - t.L)
theorem Within.refl {t : St} (h : SInv t) : Within t t := ⟨h, Nat.le_refl _, by rw [Nat.sub_self, pw_zero]; omega, by rw [Nat.sub_self, pw_zero]; omega⟩
theorem Within.trans {t u v : St} (h : Within t u) (k : Within u v) : Within t v := by
  have hl := h.l
  have kl := k.l
  have e : v.L - t.L = (u.L - t.L) + (v.L - u.L) := by omega
  have hp := pw_pos (v.L - u.L)
  refine ⟨k.inv, by omega, ?_, ?_⟩
  · rw [e, pw_add, ← Int.mul_assoc]
    exact Int.le_trans (Int.mul_le_mul_of_nonneg_right h.lo (by omega)) k.lo
  · rw [e, pw_add, ← Int.mul_assoc]
    exact Int.le_trans k.hi (Int.mul_le_mul_of_nonneg_right h.hi (by omega))
theorem Stepped.within {t u : St} {x : Int × Int} {a n : Int} (h : SInv t) (s : Stepped t u x a n) : Within t u := by
  obtain ⟨s0, a0, n1, an, w1, w2, _⟩ := share_some h.mods s.sh
  have hp := pw_pos (u.L - t.L)
  have hqa0 : 0 ≤ t.R / whole t.C x.1 * a := Int.mul_nonneg (by have := s.q1; omega) a0
  have hq := s.qle
  rw [Int.mul_add] at hq
  refine ⟨s.inv, s.l0, ?_, ?_⟩
  · rw [s.v]
    exact Int.mul_le_mul_of_nonneg_right (by omega) (by omega)
  · rw [s.v, s.r, ← Int.add_mul]
    exact Int.mul_le_mul_of_nonneg_right (by omega) (by omega)
theorem run_within : ∀ (xs : List (Int × Int)) {t u : St}, SInv t → run t xs = some u → Within t u
  | [], t, u, h, e => by
    rw [run] at e
    injection e with e
    subst e
    exact Within.refl h
  | x :: xs, t, u, h, e => by
    rw [run] at e
    obtain ⟨v, hv, hr⟩ := Option.bind_eq_some_iff.1 e
    obtain ⟨a, n, hs⟩ := step_some h hv
    exact (hs.within h).trans (run_within xs hs.inv hr)
theorem Within.prefix_ {t u : St} (w : Within t u) : t.V ≤ u.V / pw (u.L - t.L) ∧ u.V / pw (u.L - t.L) < t.V + t.R := by
  have hp := pw_pos (u.L - t.L)
  have h1 := w.lo
  have h2 := w.hi
  have h3 := w.inv.r0
  exact ⟨(Int.le_ediv_iff_mul_le hp).2 h1, (Int.ediv_lt_iff_lt_mul hp).2 (by omega)⟩
theorem SInv.lt {t : St} (h : SInv t) : t.V < pw t.L := by
  have h1 := h.top
  have h2 := h.r0
  have h3 := h.l5
  have e : t.L = (t.L - 5) + 5 := by omega
  have hp : pw 5 = 1099511627776 := by rw [pw_succ, pw_succ, pw_succ, pw_succ, pw_succ, pw_zero]; rfl
  rw [e, pw_add, hp]
  have := pw_pos (t.L - 5)
  omega
theorem Stepped.found {t u v : St} {x : Int × Int} {a n : Int} (h : SInv t) (s : Stepped t u x a n) (w : Within u v) :
    a ≤ (v.V / pw (v.L - t.L) - t.V) / (t.R / whole t.C x.1) ∧ (v.V / pw (v.L - t.L) - t.V) / (t.R / whole t.C x.1) < a + n := by
  have hp := pw_pos (u.L - t.L)
  have hpre := w.prefix_
  have hl0 := s.l0
  have hl1 := w.l
  have e : v.V / pw (v.L - t.L) = v.V / pw (v.L - u.L) / pw (u.L - t.L) := by
    rw [show v.L - t.L = (v.L - u.L) + (u.L - t.L) by omega, pw_add, ← Int.ediv_ediv_of_nonneg (Int.le_of_lt (pw_pos _))]
  have hv := s.v
  have hr := s.r
  have hq := s.q1
  rw [e]
  generalize v.V / pw (v.L - u.L) = X at *
  generalize t.R / whole t.C x.1 = q at *
  generalize pw (u.L - t.L) = P at *
  have e1 : t.V + q * a ≤ X / P := (Int.le_ediv_iff_mul_le hp).2 (by omega)
  have e2 : X / P < t.V + q * a + q * n := (Int.ediv_lt_iff_lt_mul hp).2 (by rw [Int.add_mul]; omega)
  refine ⟨(Int.le_ediv_iff_mul_le (by omega)).2 ?_, (Int.ediv_lt_iff_lt_mul (by omega)).2 ?_⟩
  · rw [Int.mul_comm]; omega
  · rw [Int.add_mul, Int.mul_comm a, Int.mul_comm n]; omega
def read (g : St → Int → Option Int) : St → List Int → Option (List (Int × Int) × St)
  | t, [] => some ([], t)
  | t, k :: ks => (g t k).bind fun s => (step t (k, s)).bind fun u => (read g u ks).map fun p => ((k, s) :: p.1, p.2)
theorem read_run (g : St → Int → Option Int) : ∀ (ks : List Int) (t u : St) (xs : List (Int × Int)), read g t ks = some (xs, u) → run t xs = some u ∧ xs.map Prod.fst = ks
  | [], t, u, xs, e => by
    rw [read] at e
    injection e with e
    injection e with e1 e2
    subst e1
    subst e2
    exact ⟨rfl, rfl⟩
  | k :: ks, t, u, xs, e => by
    rw [read] at e
    obtain ⟨s, hs, e⟩ := Option.bind_eq_some_iff.1 e
    obtain ⟨v, hv, e⟩ := Option.bind_eq_some_iff.1 e
    obtain ⟨p, hp, e⟩ := Option.map_eq_some_iff.1 e
    obtain ⟨ys, w⟩ := p
    injection e with e1 e2
    subst e1
    subst e2
    obtain ⟨h1, h2⟩ := read_run g ks v w ys hp
    exact ⟨by rw [run, hv]; exact h1, by rw [List.map_cons, h2]⟩
def Right (b : List Int) (g : St → Int → Option Int) : Prop :=
  ∀ t k s a n, SInv t → t.L ≤ b.length → share t.C k s = some (a, n) → t.V ≤ val (b.take t.L) → val (b.take t.L) < t.V + t.R →
    a ≤ (val (b.take t.L) - t.V) / (t.R / whole t.C k) → (val (b.take t.L) - t.V) / (t.R / whole t.C k) < a + n → g t k = some s
theorem run_read {b : List Int} (hb : Dig b) {g : St → Int → Option Int} (hg : Right b g) : ∀ (xs : List (Int × Int)) (t u : St), SInv t → run t xs = some u → b = digs u.L u.V → read g t (xs.map Prod.fst) = some (xs, u)
  | [], t, u, h, e, eb => by
    rw [run] at e
    injection e with e
    subst e
    rfl
  | x :: xs, t, u, h, e, eb => by
    rw [run] at e
    obtain ⟨v, hv, hr⟩ := Option.bind_eq_some_iff.1 e
    obtain ⟨a, n, hs⟩ := step_some h hv
    have hw := run_within xs hs.inv hr
    have hW := (hs.within h).trans hw
    have hlen : b.length = u.L := by rw [eb, digs_length]
    have hval : val b = u.V := by rw [eb, val_digs _ _ hw.inv.v0 hw.inv.lt]
    have hl := hW.l
    have htk : val (b.take t.L) = u.V / pw (u.L - t.L) := by rw [val_take b hb t.L (by omega), hval, hlen]
    have hf := hs.found h hw
    have hpre := hW.prefix_
    have hgx := hg t x.1 x.2 a n h (by omega) hs.sh (by rw [htk]; exact hpre.1) (by rw [htk]; exact hpre.2) (by rw [htk]; exact hf.1) (by rw [htk]; exact hf.2)
    rw [List.map_cons, read, hgx, Option.bind_some]
    rw [show step t (x.1, x.2) = some v from hv, Option.bind_some, run_read hb hg xs v u hs.inv hr eb]
    rfl
def decode (g : St → Int → Option Int) (t : St) (ks : List Int) (b : List Int) : Option (List (Int × Int)) :=
  (read g t ks).bind fun p => if digs p.2.L p.2.V = b then some p.1 else none
theorem decode_iff {b : List Int} (hb : Dig b) {g : St → Int → Option Int} (hg : Right b g) {t : St} (h : SInv t) (ks : List Int) (xs : List (Int × Int)) :
    decode g t ks b = some xs ↔ xs.map Prod.fst = ks ∧ ∃ u, run t xs = some u ∧ digs u.L u.V = b := by
  constructor
  · intro e
    obtain ⟨p, hp, e⟩ := Option.bind_eq_some_iff.1 e
    obtain ⟨ys, u⟩ := p
    by_cases hd : digs u.L u.V = b
    · simp only at e
      rw [if_pos hd] at e
      injection e with e
      subst e
      obtain ⟨h1, h2⟩ := read_run g ks t u ys hp
      exact ⟨h2, u, h1, hd⟩
    · simp only at e
      rw [if_neg hd] at e
      cases e
  · rintro ⟨rfl, u, hr, hd⟩
    unfold decode
    rw [run_read hb hg xs t u h hr hd.symm, Option.bind_some, if_pos hd]
theorem decode_eq {b : List Int} (hb : Dig b) {g g' : St → Int → Option Int} (hg : Right b g) (hg' : Right b g') {t : St} (h : SInv t) (ks : List Int) : decode g t ks b = decode g' t ks b := by
  cases e : decode g t ks b with
  | some xs => exact ((decode_iff hb hg' h ks xs).2 ((decode_iff hb hg h ks xs).1 e)).symm
  | none =>
    cases e' : decode g' t ks b with
    | none => rfl
    | some xs =>
      have := (decode_iff hb hg h ks xs).2 ((decode_iff hb hg' h ks xs).1 e')
      rw [e] at this
      cases this
end Go.Proofs.Ythegimfokcdehaa.CM
namespace Go.Proofs.Ythegimfokcdehaa.CM
set_option linter.unusedVariables false
set_option linter.unusedSimpArgs false
structure Pr (t : St) (o : List Int) (c : Int) (h : Nat) (l : Int) : Prop where
  wr : Wr o c h l t.V t.L
  sum : l + t.R ≤ 8589934592
  top : c = 255 → l + t.R ≤ 4294967296
theorem sh_top {o : List Int} {c : Int} {h : Nat} {l r : Int} (hl0 : 0 ≤ l) (hr0 : 1 ≤ r) (hr1 : r < 16777216) (h1 : l + r ≤ 8589934592) (h2 : c = 255 → l + r ≤ 4294967296) :
    (sh o c h l).2.2.2 + r * 256 ≤ 8589934592 ∧ ((sh o c h l).2.1 = 255 → (sh o c h l).2.2.2 + r * 256 ≤ 4294967296) := by
  unfold sh
  split
  · simp only
    refine ⟨by omega, fun e => ?_⟩
    omega
  · simp only
    refine ⟨by omega, fun e => ?_⟩
    have := h2 e
    omega
theorem shs_top : ∀ (m : Nat) {o : List Int} {c : Int} {h : Nat} {l r : Int} {V : Int} {L : Nat}, Wr o c h l V L → 1 ≤ r → (∀ j, j < m → r * pw j < 16777216) → l + r ≤ 8589934592 → (c = 255 → l + r ≤ 4294967296) →
    (shs m (o, c, h, l)).2.2.2 + r * pw m ≤ 8589934592 ∧ ((shs m (o, c, h, l)).2.1 = 255 → (shs m (o, c, h, l)).2.2.2 + r * pw m ≤ 4294967296)
  | 0, o, c, h, l, r, V, L, w, _, _, h1, h2 => by rw [pw_zero, Int.mul_one]; exact ⟨h1, h2⟩
  | m + 1, o, c, h, l, r, V, L, w, hr, hj, h1, h2 => by
    have hr1 := hj 0 (by omega)
    rw [pw_zero, Int.mul_one] at hr1
    obtain ⟨a, b⟩ := sh_top (o := o) (h := h) w.l0 hr hr1 h1 h2
    have := shs_top m (r := r * 256) w.sh.1 (by omega) (fun j hjm => by
      have := hj (j + 1) (by omega)
      rwa [pw_succ, Int.mul_comm (pw j), ← Int.mul_assoc] at this) a b
    rw [pw_succ, Int.mul_comm (pw m), ← Int.mul_assoc]
    exact this
theorem many_lt' {r : Int} {j : Nat} (h0 : 256 ≤ r) (h : j < many r) : r * pw j < 16777216 := by
  unfold many at h
  by_cases a : r < 65536
  · rw [if_pos a] at h
    have : j = 0 ∨ j = 1 := by omega
    rcases this with rfl | rfl
    · rw [pw_zero]; omega
    · rw [pw_one]; omega
  · rw [if_neg a] at h
    by_cases b : r < 16777216
    · rw [if_pos b] at h
      have : j = 0 := by omega
      subst this
      rw [pw_zero]; omega
    · rw [if_neg b] at h
      omega
theorem Pr.step {t u : St} (hI : SInv t) {o : List Int} {c : Int} {h : Nat} {l : Int} (p : Pr t o c h l) {x : Int × Int} {a n : Int} (s : Stepped t u x a n) (m : Nat) (hm : m = many (t.R / whole t.C x.1 * n)) :
    Pr u (shs m (o, c, h, l + t.R / whole t.C x.1 * a)).1 (shs m (o, c, h, l + t.R / whole t.C x.1 * a)).2.1 (shs m (o, c, h, l + t.R / whole t.C x.1 * a)).2.2.1 (shs m (o, c, h, l + t.R / whole t.C x.1 * a)).2.2.2 := by
  obtain ⟨s0, a0, n1, an, w1, w2, _⟩ := share_some hI.mods s.sh
  have hq := s.qle
  have hq1 := s.q1
  have hqn := s.q256
  rw [Int.mul_add] at hq
  have hl : u.L - t.L = m := by rw [s.l, hm]; omega
  have hr := s.r
  have hv := s.v
  have hul := s.l
  rw [hl] at hr hv
  generalize hqq : t.R / whole t.C x.1 = q at *
  have hqa : 0 ≤ q * a := Int.mul_nonneg (by omega) a0
  have hsum := p.sum
  have htop := p.top
  have hw : Wr o c h (l + q * a) (t.V + q * a) t.L := ⟨p.wr.dig, p.wr.c0, p.wr.c1, p.wr.h1, by have := p.wr.l0; omega, by omega, p.wr.len, by have := p.wr.num; omega, fun e => by have := htop e; omega⟩
  have h1 := hw.shs m
  have h2 := shs_top m (r := q * n) hw (by omega) (fun j hj => many_lt' hqn (by rw [← hm]; exact hj)) (by omega) (fun e => by have := htop e; omega)
  refine ⟨?_, ?_, ?_⟩
  · rw [hv, show u.L = t.L + m by omega]
    exact h1
  · rw [hr]; exact h2.1
  · rw [hr]; exact h2.2
theorem run_snoc (t : St) : ∀ (xs : List (Int × Int)) (x : Int × Int), run t (xs ++ [x]) = (run t xs).bind fun u => step u x := by
  intro xs
  induction xs generalizing t with
  | nil =>
    intro x
    rw [List.nil_append, run, run, Option.bind_some]
    cases step t x <;> rfl
  | cons y ys ih =>
    intro x
    rw [List.cons_append, run, run]
    cases step t y with
    | none => rfl
    | some u => rw [Option.bind_some, Option.bind_some, ih]
theorem run_append (t : St) : ∀ (xs ys : List (Int × Int)), run t (xs ++ ys) = (run t xs).bind fun u => run u ys := by
  intro xs
  induction xs generalizing t with
  | nil => intro ys; rw [List.nil_append, run, Option.bind_some]
  | cons y zs ih =>
    intro ys
    rw [List.cons_append, run, run]
    cases step t y with
    | none => rfl
    | some u => rw [Option.bind_some, Option.bind_some, ih]
theorem many_le2 (r : Int) : many r ≤ 2 := by unfold many; split <;> (try split) <;> omega
theorem step_none {t : St} {x : Int × Int} (h : share t.C x.1 x.2 = none) : step t x = none := by unfold step; rw [h]; rfl
theorem step_of_share {t : St} {x : Int × Int} {p : Int × Int} (h : share t.C x.1 x.2 = some p) : ∃ u, step t x = some u := by unfold step; rw [h]; exact ⟨_, rfl⟩
def st0 (C : List (List Int)) : St := ⟨C, 4294967295, 0, 5⟩
theorem st0_inv {C : List (List Int)} (h : Mods C) : SInv (st0 C) :=
  ⟨h, by show (16777216 : Int) ≤ 4294967295; decide, by show (4294967295 : Int) < 4294967296; decide, Int.le_refl 0, Nat.le_refl 5, by rw [show (st0 C).L - 5 = 0 from rfl, pw_zero]; show (0 : Int) + 4294967295 ≤ 4294967295 * 1; decide⟩
theorem st0_pr (C : List (List Int)) : Pr (st0 C) [] 0 1 0 :=
  ⟨⟨.nil, by decide, by decide, by decide, by decide, by decide, rfl, by show (0 : Int) = val ([] ++ [0] ++ List.replicate (1 - 1) 255) * 4294967296 + 0; decide, fun h => by omega⟩, by show (0 : Int) + 4294967295 ≤ 8589934592; decide, fun h => by omega⟩
theorem run_L : ∀ (xs : List (Int × Int)) {t u : St}, SInv t → run t xs = some u → u.L ≤ t.L + 2 * xs.length
  | [], t, u, h, e => by rw [run] at e; injection e with e; subst e; simp
  | x :: xs, t, u, h, e => by
    rw [run] at e
    obtain ⟨v, hv, hr⟩ := Option.bind_eq_some_iff.1 e
    obtain ⟨a, n, hs⟩ := step_some h hv
    have h1 := run_L xs hs.inv hr
    have h2 := hs.l
    have h3 := many_le2 (t.R / whole t.C x.1 * n)
    rw [List.length_cons]
    omega
theorem run_lens : ∀ (xs : List (Int × Int)) {t u : St}, run t xs = some u → u.C.map List.length = t.C.map List.length
  | [], t, u, e => by rw [run] at e; injection e with e; subst e; rfl
  | x :: xs, t, u, e => by
    rw [run] at e
    obtain ⟨v, hv, hr⟩ := Option.bind_eq_some_iff.1 e
    rw [run_lens xs hr]
    unfold step at hv
    obtain ⟨p, hp, hu⟩ := Option.map_eq_some_iff.1 hv
    subst hu
    exact cntC_lens _ _ _
end Go.Proofs.Ythegimfokcdehaa.CM
namespace Go.Proofs.Ythegimfokcdehaa.CM
set_option linter.unusedVariables false
set_option linter.unusedSimpArgs false
def byteAt (b : List Int) (i : Nat) : Int := b.getD i 0
def pre (b : List Int) : Nat → Int
  | 0 => 0
  | i + 1 => pre b i * 256 + byteAt b i
theorem pre_take (b : List Int) : ∀ i, i ≤ b.length → pre b i = val (b.take i)
  | 0, _ => by rw [List.take_zero]; rfl
  | i + 1, h => by
    have : b.getD i 0 = b[i] := by rw [List.getD_eq_getElem?_getD, List.getElem?_eq_getElem (by omega)]; rfl
    rw [List.take_succ_eq_append_getElem (by omega), val_snoc, ← pre_take b i (by omega), pre, byteAt, this]
def code (b : List Int) (V : Int) (i : Nat) : Int := (pre b i - V) % 4294967296
theorem code_bound (b : List Int) (V : Int) (i : Nat) : 0 ≤ code b V i ∧ code b V i < 4294967296 := by unfold code; omega
theorem code_next (b : List Int) (V : Int) (i : Nat) (h0 : 0 ≤ byteAt b i) (h1 : byteAt b i < 256) : (code b V i * 256) % 4294967296 + byteAt b i = code b (V * 256) (i + 1) := by
  unfold code
  rw [pre]
  omega
theorem code_sub (b : List Int) (V d : Int) (i : Nat) : (code b V i - d) % 4294967296 = code b (V + d) i := by unfold code; omega
def gP (b : List Int) (t : St) (k : Int) : Option Int :=
  if b.length < t.L then none else some (findS t.C k (if whole t.C k - 1 < code b t.V t.L / (t.R / whole t.C k) then whole t.C k - 1 else code b t.V t.L / (t.R / whole t.C k)))
theorem gP_right (b : List Int) : Right b (gP b) := by
  intro t k s a n hI hL hsh h1 h2 h3 h4
  unfold gP
  have hr1 := hI.r1
  have hc : code b t.V t.L = val (b.take t.L) - t.V := by unfold code; rw [pre_take b _ hL]; omega
  obtain ⟨_, _, _, han, _⟩ := share_some hI.mods hsh
  rw [if_neg (by omega), hc, if_neg (by omega), find_share hI.mods hsh h3 h4]
end Go.Proofs.Ythegimfokcdehaa.CM
