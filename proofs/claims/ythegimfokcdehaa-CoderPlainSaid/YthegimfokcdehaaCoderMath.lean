/- The plain side of the coder: digits, the carry, the range; what is coded is read as it was. No program in sight. -/
namespace Go.Proofs.Ythegimfokcdehaa.CM
set_option linter.unusedVariables false
set_option linter.unusedSimpArgs false

/-! ### digits -/
@[irreducible] def pw (n : Nat) : Int := 256 ^ n
theorem pw_zero : pw 0 = 1 := by unfold pw; rfl
theorem pw_succ (n : Nat) : pw (n + 1) = pw n * 256 := by unfold pw; rw [Int.pow_succ]
theorem pw_pos (n : Nat) : 0 < pw n := by
  induction n with
  | zero => rw [pw_zero]; omega
  | succ n ih => rw [pw_succ]; omega
theorem pw_add (a b : Nat) : pw (a + b) = pw a * pw b := by
  induction b with
  | zero => rw [Nat.add_zero, pw_zero, Int.mul_one]
  | succ b ih => rw [← Nat.add_assoc, pw_succ, pw_succ, ih, Int.mul_assoc]
theorem pw_two : pw 2 = 65536 := by rw [pw_succ, pw_succ, pw_zero]; rfl
theorem pw_one : pw 1 = 256 := by rw [pw_succ, pw_zero]; rfl
theorem snoc_ind {P : List Int → Prop} (h0 : P []) (h1 : ∀ b x, P b → P (b ++ [x])) (l : List Int) : P l := by
  have h : ∀ r : List Int, P r.reverse := by
    intro r
    induction r with
    | nil => exact h0
    | cons x r ih => rw [List.reverse_cons]; exact h1 _ _ ih
  have := h l.reverse
  rwa [List.reverse_reverse] at this
def Dig (l : List Int) : Prop := ∀ x ∈ l, 0 ≤ x ∧ x < 256
def val (l : List Int) : Int := l.foldl (fun d x => d * 256 + x) 0
theorem val_nil : val [] = 0 := rfl
theorem val_snoc (l : List Int) (x : Int) : val (l ++ [x]) = val l * 256 + x := by unfold val; rw [List.foldl_append]; rfl
theorem val_append (a : List Int) : ∀ b : List Int, val (a ++ b) = val a * pw b.length + val b := by
  refine snoc_ind ?_ ?_
  · rw [List.append_nil, List.length_nil, pw_zero, val_nil]; omega
  · intro b x ih
    rw [← List.append_assoc, val_snoc, val_snoc, ih, List.length_append, List.length_singleton, pw_succ]
    grind
theorem Dig.nil : Dig [] := fun x hx => by simp at hx
theorem Dig.append {a b : List Int} (ha : Dig a) (hb : Dig b) : Dig (a ++ b) := fun x hx => by
  rcases List.mem_append.1 hx with h | h
  · exact ha x h
  · exact hb x h
theorem Dig.left {a b : List Int} (h : Dig (a ++ b)) : Dig a := fun x hx => h x (List.mem_append.2 (.inl hx))
theorem Dig.right {a b : List Int} (h : Dig (a ++ b)) : Dig b := fun x hx => h x (List.mem_append.2 (.inr hx))
theorem Dig.one {x : Int} (h0 : 0 ≤ x) (h1 : x < 256) : Dig [x] := fun y hy => by rw [List.mem_singleton] at hy; subst hy; exact ⟨h0, h1⟩
theorem Dig.rep (n : Nat) {x : Int} (h0 : 0 ≤ x) (h1 : x < 256) : Dig (List.replicate n x) := fun y hy => by rw [List.eq_of_mem_replicate hy]; exact ⟨h0, h1⟩
theorem val_bound : ∀ l : List Int, Dig l → 0 ≤ val l ∧ val l < pw l.length := by
  refine snoc_ind ?_ ?_
  · intro _; rw [val_nil, List.length_nil, pw_zero]; omega
  · intro b x ih h
    have h1 := ih h.left
    have h2 := h.right x (List.mem_singleton.2 rfl)
    rw [val_snoc, List.length_append, List.length_singleton, pw_succ]
    omega
/-- A number's digits, so many. -/
def digs : Nat → Int → List Int
  | 0, _ => []
  | n + 1, v => digs n (v / 256) ++ [v % 256]
theorem digs_length : ∀ (n : Nat) (v : Int), (digs n v).length = n
  | 0, _ => rfl
  | n + 1, v => by rw [digs, List.length_append, digs_length n]; rfl
theorem digs_dig : ∀ (n : Nat) (v : Int), Dig (digs n v)
  | 0, _ => .nil
  | n + 1, v => by rw [digs]; exact (digs_dig n _).append (.one (by omega) (by omega))
theorem digs_val : ∀ l : List Int, Dig l → digs l.length (val l) = l := by
  refine snoc_ind ?_ ?_
  · intro _; rfl
  · intro b x ih h
    have h2 := h.right x (List.mem_singleton.2 rfl)
    rw [val_snoc, List.length_append, List.length_singleton, digs, show (val b * 256 + x) / 256 = val b by omega, show (val b * 256 + x) % 256 = x by omega, ih h.left]
theorem val_digs : ∀ (n : Nat) (v : Int), 0 ≤ v → v < pw n → val (digs n v) = v
  | 0, v, h0, h1 => by rw [pw_zero] at h1; rw [digs, val_nil]; omega
  | n + 1, v, h0, h1 => by
    rw [pw_succ] at h1
    rw [digs, val_snoc, val_digs n (v / 256) (by omega) (by omega)]
    omega
theorem digs_eq {l : List Int} (h : Dig l) {n : Nat} {v : Int} (hn : l.length = n) (hv : val l = v) : l = digs n v := by subst hn; subst hv; exact (digs_val l h).symm
/-- The first k digits. -/
theorem val_take (l : List Int) (h : Dig l) (k : Nat) (hk : k ≤ l.length) : val (l.take k) = val l / pw (l.length - k) := by
  have h1 := val_append (l.take k) (l.drop k)
  rw [List.take_append_drop, List.length_drop] at h1
  have h2 := val_bound (l.drop k) (fun x hx => h x (List.mem_of_mem_drop hx))
  rw [List.length_drop] at h2
  have h3 := pw_pos (l.length - k)
  rw [h1]
  generalize pw (l.length - k) = p at *
  rw [Int.add_comm, Int.add_mul_ediv_right _ _ (by omega), Int.ediv_eq_zero_of_lt h2.1 h2.2]
  omega

/-! ### the carry -/
/-- A digit more is settled, or held back: as the program does it. -/
def sh (o : List Int) (c : Int) (h : Nat) (l : Int) : List Int × Int × Nat × Int :=
  if l < 4278190080 ∨ 4294967296 ≤ l then
    ((if 0 < h then o ++ [(c + l / 4294967296) % 256] else o) ++ List.replicate (h - 1) ((255 + l / 4294967296) % 256), l / 16777216 % 256, 1, l % 16777216 * 256)
  else (o, c, h + 1, l % 16777216 * 256)
/-- What the writer has come to, as a number of so many digits. -/
structure Wr (o : List Int) (c : Int) (h : Nat) (l : Int) (V : Int) (L : Nat) : Prop where
  dig : Dig o
  c0 : 0 ≤ c
  c1 : c < 256
  h1 : 1 ≤ h
  l0 : 0 ≤ l
  l1 : l < 8589934592
  len : L = o.length + h + 4
  num : V = val (o ++ [c] ++ List.replicate (h - 1) 255) * 4294967296 + l
  car : c = 255 → l < 4294967296
theorem val_rep_zero (a : List Int) : ∀ n : Nat, val (a ++ List.replicate n 0) = val a * pw n
  | 0 => by rw [List.replicate_zero, List.append_nil, pw_zero]; omega
  | n + 1 => by rw [List.replicate_succ', ← List.append_assoc, val_snoc, val_rep_zero a n, pw_succ]; grind
theorem val_rep_max (a : List Int) : ∀ n : Nat, val (a ++ List.replicate n 255) = val a * pw n + (pw n - 1)
  | 0 => by rw [List.replicate_zero, List.append_nil, pw_zero]; omega
  | n + 1 => by rw [List.replicate_succ', ← List.append_assoc, val_snoc, val_rep_max a n, pw_succ]; grind
theorem Wr.sh {o : List Int} {c : Int} {h : Nat} {l V : Int} {L : Nat} (w : Wr o c h l V L) :
    Wr (sh o c h l).1 (sh o c h l).2.1 (sh o c h l).2.2.1 (sh o c h l).2.2.2 (V * 256) (L + 1) ∧ (sh o c h l).2.2.2 < 4294967296 := by
  obtain ⟨dig, c0, c1, h1, l0, l1, len, num, car⟩ := w
  unfold CM.sh
  by_cases hc : l < 4278190080 ∨ 4294967296 ≤ l
  · rw [if_pos hc]
    simp only [if_pos (show 0 < h by omega)]
    by_cases hb : 4294967296 ≤ l
    · have e1 : l / 4294967296 = 1 := by omega
      have hc255 : c ≠ 255 := fun h => by have := car h; omega
      rw [e1, show ((255 : Int) + 1) % 256 = 0 by rfl, show (c + 1) % 256 = c + 1 by omega]
      refine ⟨⟨(dig.append (.one (by omega) (by omega))).append (.rep _ (by omega) (by omega)), by omega, by omega, by omega, by omega, by omega, ?_, ?_, fun _ => by omega⟩, by omega⟩
      · rw [List.length_append, List.length_append, List.length_replicate, List.length_singleton]; omega
      · rw [num, val_rep_max, val_snoc, show (1 : Nat) - 1 = 0 from rfl, List.replicate_zero, List.append_nil, val_snoc, val_rep_zero, val_snoc]
        generalize pw (h - 1) = p
        generalize val o = v
        have e2 : l = 4294967296 + (l / 16777216 % 256) * 16777216 + l % 16777216 := by omega
        generalize l / 16777216 % 256 = t at *
        generalize l % 16777216 = r at *
        subst e2
        grind
    · have e1 : l / 4294967296 = 0 := by omega
      rw [e1, show ((255 : Int) + 0) % 256 = 255 by rfl, show (c + 0) % 256 = c by omega]
      refine ⟨⟨(dig.append (.one (by omega) (by omega))).append (.rep _ (by omega) (by omega)), by omega, by omega, by omega, by omega, by omega, ?_, ?_, fun _ => by omega⟩, by omega⟩
      · rw [List.length_append, List.length_append, List.length_replicate, List.length_singleton]; omega
      · rw [num, val_rep_max, val_snoc, show (1 : Nat) - 1 = 0 from rfl, List.replicate_zero, List.append_nil, val_snoc, val_rep_max, val_snoc]
        generalize pw (h - 1) = p
        generalize val o = v
        have e2 : l = (l / 16777216 % 256) * 16777216 + l % 16777216 := by omega
        generalize l / 16777216 % 256 = t at *
        generalize l % 16777216 = r at *
        subst e2
        grind
  · rw [if_neg hc]
    refine ⟨⟨dig, c0, c1, by show 1 ≤ h + 1; omega, by show 0 ≤ l % 16777216 * 256; omega, by show l % 16777216 * 256 < 8589934592; omega, by show L + 1 = o.length + (h + 1) + 4; omega, ?_, fun _ => by show l % 16777216 * 256 < 4294967296; omega⟩, by show l % 16777216 * 256 < 4294967296; omega⟩
    show V * 256 = val (o ++ [c] ++ List.replicate (h + 1 - 1) 255) * 4294967296 + l % 16777216 * 256
    rw [num, val_rep_max, val_snoc, val_rep_max, val_snoc, show h + 1 - 1 = (h - 1) + 1 by omega, pw_succ]
    generalize pw (h - 1) = p
    generalize val o = v
    have e2 : l = 255 * 16777216 + l % 16777216 := by omega
    generalize l % 16777216 = r at *
    subst e2
    grind
/-- So many shifts. -/
def shs : Nat → List Int × Int × Nat × Int → List Int × Int × Nat × Int
  | 0, s => s
  | n + 1, s => shs n (sh s.1 s.2.1 s.2.2.1 s.2.2.2)
theorem Wr.shs : ∀ (n : Nat) {o : List Int} {c : Int} {h : Nat} {l V : Int} {L : Nat}, Wr o c h l V L →
    Wr (shs n (o, c, h, l)).1 (shs n (o, c, h, l)).2.1 (shs n (o, c, h, l)).2.2.1 (shs n (o, c, h, l)).2.2.2 (V * pw n) (L + n)
  | 0, o, c, h, l, V, L, w => by rw [pw_zero, Int.mul_one]; exact w
  | n + 1, o, c, h, l, V, L, w => by
    have h1 := Wr.shs n w.sh.1
    rw [show V * pw (n + 1) = V * 256 * pw n by rw [pw_succ]; grind, show L + (n + 1) = L + 1 + n by omega]
    exact h1
theorem sh_low (o : List Int) (c : Int) (h : Nat) (l : Int) : (sh o c h l).2.2.2 = l % 16777216 * 256 := by unfold sh; split <;> rfl
/-- All digits: five shifts. -/
theorem Wr.ends {o : List Int} {c : Int} {h : Nat} {l V : Int} {L : Nat} (w : Wr o c h l V L) : (CM.shs 5 (o, c, h, l)).1 = digs L V := by
  have h5 := w.shs 5
  have h4 := w.shs 4
  have e : CM.shs 5 (o, c, h, l) = CM.sh (CM.shs 4 (o, c, h, l)).1 (CM.shs 4 (o, c, h, l)).2.1 (CM.shs 4 (o, c, h, l)).2.2.1 (CM.shs 4 (o, c, h, l)).2.2.2 := rfl
  have hl : (CM.shs 4 (o, c, h, l)).2.2.2 = 0 := by
    simp only [CM.shs, sh_low]
    omega
  rw [e] at h5 ⊢
  generalize CM.shs 4 (o, c, h, l) = s at *
  obtain ⟨o4, c4, h4', l4⟩ := s
  simp only at hl
  subst hl
  have hs : CM.sh o4 c4 h4' 0 = ((if 0 < h4' then o4 ++ [(c4 + 0 / 4294967296) % 256] else o4) ++ List.replicate (h4' - 1) ((255 + 0 / 4294967296) % 256), 0 / 16777216 % 256, 1, 0 % 16777216 * 256) := by
    unfold CM.sh
    rw [if_pos (by omega)]
  simp only [hs] at h5 ⊢
  generalize (if 0 < h4' then o4 ++ [(c4 + 0 / 4294967296) % 256] else o4) ++ List.replicate (h4' - 1) ((255 + 0 / 4294967296) % 256) = out at *
  obtain ⟨dig, c0, c1, h1, l0, l1, len, num, car⟩ := h5
  have hp : pw 5 = 1099511627776 := by rw [pw_succ, pw_succ, pw_succ, pw_succ, pw_succ, pw_zero]; rfl
  rw [hp, show (1 : Nat) - 1 = 0 from rfl, List.replicate_zero, List.append_nil, val_snoc] at num
  exact digs_eq dig (by omega) (by omega)
end Go.Proofs.Ythegimfokcdehaa.CM
