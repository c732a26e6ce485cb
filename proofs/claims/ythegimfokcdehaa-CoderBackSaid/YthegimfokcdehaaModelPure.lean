/- The counts of symbols, plainly. -/
namespace Go.Proofs.Ythegimfokcdehaa.MW
set_option linter.unusedVariables false
def out (n : Nat) (x : Int) : Bool := !decide (0 ≤ x) || !decide (x < n)
def fb (n : Nat) : List Int → Int → Int
  | [], _ => -1
  | x :: xs, i => if out n x = true then i else fb n xs (i + 1)
theorem fb_none (n : Nat) : ∀ (l : List Int) (i : Int), (∀ x ∈ l, 0 ≤ x ∧ x < n) → fb n l i = -1
  | [], _, _ => rfl
  | x :: l, i, h => by
    have h1 := h x (List.mem_cons_self ..)
    rw [fb, if_neg, fb_none n l (i + 1) (fun y hy => h y (List.mem_cons_of_mem _ hy))]
    unfold out
    simp
    omega
def Inv (cs : List Int) : Prop := (∀ c ∈ cs, 1 ≤ c) ∧ cs.sum ≤ 10000 ∧ cs.length ≤ 256
theorem sum_nonneg : ∀ (l : List Int), (∀ c ∈ l, 1 ≤ c) → 0 ≤ l.sum
  | [], _ => by simp
  | c :: l, h => by
    have h1 := sum_nonneg l (fun d hd => h d (List.mem_cons_of_mem _ hd))
    have h2 := h c (List.mem_cons_self ..)
    rw [List.sum_cons]
    omega
theorem Inv.part {cs : List Int} (h : Inv cs) {k : Nat} (hk : k < cs.length) : cs.drop k = cs.getD k 0 :: cs.drop (k + 1) ∧ (cs.take (k + 1)).sum = (cs.take k).sum + cs.getD k 0 ∧ 0 ≤ (cs.take k).sum ∧ (cs.take k).sum + cs.getD k 0 ≤ 10000 ∧ 1 ≤ cs.getD k 0 := by
  have hg : cs.getD k 0 = cs[k] := by rw [List.getD_eq_getElem?_getD, List.getElem?_eq_getElem hk]; rfl
  have hd : cs.drop k = cs[k] :: cs.drop (k + 1) := List.drop_eq_getElem_cons hk
  have ht : cs.take (k + 1) = cs.take k ++ [cs[k]] := List.take_succ_eq_append_getElem hk
  have hs : cs.sum = (cs.take k).sum + (cs.drop k).sum := by rw [← List.sum_append, List.take_append_drop]
  have h1 := sum_nonneg (cs.take k) (fun c hc => h.1 c (List.mem_of_mem_take hc))
  have h2 := sum_nonneg (cs.drop (k + 1)) (fun c hc => h.1 c (List.mem_of_mem_drop hc))
  have h3 := h.2.1
  have h4 := h.1 cs[k] (List.getElem_mem hk)
  rw [hg]
  rw [hd, List.sum_cons] at hs
  refine ⟨hd, ?_, h1, by omega, h4⟩
  rw [ht, List.sum_append]
  simp
def findL : List Int → Int → Int → Int
  | [], _, _ => 0
  | c :: cs, i, v => if v < c then i else findL cs (i + 1) (v - c)
theorem set_rep (n k : Nat) (hk : k < n) : (List.replicate k (1 : Int) ++ List.replicate (n - k) 0).set k 1 = List.replicate (k + 1) 1 ++ List.replicate (n - (k + 1)) 0 := by
  rw [List.set_append_right _ _ (by simp)]
  simp only [List.length_replicate, Nat.sub_self]
  obtain ⟨d, hd⟩ : ∃ d, n - k = d + 1 := ⟨n - k - 1, by omega⟩
  rw [hd, show n - (k + 1) = d by omega, List.replicate_succ, List.set_cons_zero, List.replicate_succ', List.append_assoc]
  rfl
def hf (c : Int) : Int := (c + 1) / 2
def halfL (cs : List Int) : List Int := cs.map hf
theorem half_set (cs : List Int) (k : Nat) (hk : k < cs.length) : ((cs.take k).map hf ++ cs.drop k).set k (hf (cs.getD k 0)) = (cs.take (k + 1)).map hf ++ cs.drop (k + 1) := by
  have hg : cs.getD k 0 = cs[k] := by rw [List.getD_eq_getElem?_getD, List.getElem?_eq_getElem hk]; rfl
  have hl : ((cs.take k).map hf).length = k := by simp; omega
  rw [List.set_append_right _ _ (by omega), hl, Nat.sub_self, List.drop_eq_getElem_cons hk, List.set_cons_zero, List.take_succ_eq_append_getElem hk, hg, List.map_append, List.append_assoc]
  rfl
theorem half_at (cs : List Int) (k : Nat) (hk : k < cs.length) : ((cs.take k).map hf ++ cs.drop k).getD k 0 = cs.getD k 0 := by
  have hl : ((cs.take k).map hf).length = k := by simp; omega
  rw [List.getD_eq_getElem?_getD, List.getElem?_append_right (by omega), hl, Nat.sub_self, List.getElem?_drop, Nat.add_zero, ← List.getD_eq_getElem?_getD]
theorem half_sum (cs : List Int) (k : Nat) (hk : k < cs.length) : ((cs.take (k + 1)).map hf).sum = ((cs.take k).map hf).sum + hf (cs.getD k 0) := by
  have hg : cs.getD k 0 = cs[k] := by rw [List.getD_eq_getElem?_getD, List.getElem?_eq_getElem hk]; rfl
  rw [List.take_succ_eq_append_getElem hk, List.map_append, List.sum_append, hg]
  simp
theorem half_le : ∀ (l : List Int), (∀ c ∈ l, 1 ≤ c) → 0 ≤ (l.map hf).sum ∧ (l.map hf).sum ≤ l.sum
  | [], _ => by simp
  | c :: l, h => by
    have h1 := half_le l (fun d hd => h d (List.mem_cons_of_mem _ hd))
    have h2 := h c (List.mem_cons_self ..)
    rw [List.map_cons, List.sum_cons, List.sum_cons]
    unfold hf at *
    omega
def cnt (cs : List Int) (s : Nat) : List Int := if (cs.set s (cs.getD s 0 + 32)).sum > 8192 then halfL (cs.set s (cs.getD s 0 + 32)) else cs.set s (cs.getD s 0 + 32)
def Ok (n : Nat) (cs : List Int) : Prop := (∀ c ∈ cs, 1 ≤ c) ∧ cs.sum ≤ 8192 ∧ cs.length = n ∧ n ≤ 256
theorem Ok.inv {n : Nat} {cs : List Int} (h : Ok n cs) : Inv cs := ⟨h.1, by have := h.2.1; omega, by have := h.2.2; omega⟩
theorem sum_set : ∀ (cs : List Int) (s : Nat) (v : Int), s < cs.length → (cs.set s v).sum = cs.sum - cs.getD s 0 + v
  | c :: cs, 0, v, _ => by simp; omega
  | c :: cs, s + 1, v, h => by
    have := sum_set cs s v (by simpa using h)
    rw [List.set_cons_succ, List.sum_cons, List.sum_cons, this]
    simp
    omega
theorem half_len : ∀ (l : List Int), (∀ c ∈ l, 1 ≤ c) → 2 * (l.map hf).sum ≤ l.sum + l.length
  | [], _ => by simp
  | c :: l, h => by
    have h1 := half_len l (fun d hd => h d (List.mem_cons_of_mem _ hd))
    have h2 := h c (List.mem_cons_self ..)
    rw [List.map_cons, List.sum_cons, List.sum_cons, List.length_cons]
    unfold hf at *
    push_cast
    omega
theorem Ok.step {n : Nat} {cs : List Int} (h : Ok n cs) {s : Nat} (hs : s < n) : (cs.set s (cs.getD s 0 + 32)).sum = cs.sum + 32 ∧ Inv (cs.set s (cs.getD s 0 + 32)) ∧ Ok n (cnt cs s) := by
  obtain ⟨h1, h2, h3, h4⟩ := h
  have hsum := sum_set cs s (cs.getD s 0 + 32) (by omega)
  have hge : ∀ c ∈ cs.set s (cs.getD s 0 + 32), 1 ≤ c := by
    intro c hc
    rcases List.mem_or_eq_of_mem_set hc with hc | rfl
    · exact h1 c hc
    · have : cs.getD s 0 = cs[s]'(by omega) := by rw [List.getD_eq_getElem?_getD, List.getElem?_eq_getElem (by omega)]; rfl
      have := h1 (cs[s]'(by omega)) (List.getElem_mem _)
      omega
  have hlen : (cs.set s (cs.getD s 0 + 32)).length = n := by rw [List.length_set, h3]
  refine ⟨by omega, ⟨hge, by omega, by omega⟩, ?_⟩
  unfold cnt
  by_cases hc : (cs.set s (cs.getD s 0 + 32)).sum > 8192
  · rw [if_pos hc]
    refine ⟨?_, ?_, by unfold halfL; rw [List.length_map, hlen], h4⟩
    · intro c hc
      obtain ⟨d, hd, rfl⟩ := List.mem_map.1 hc
      have := hge d hd
      unfold hf
      omega
    · have := half_len _ hge
      unfold halfL
      omega
  · rw [if_neg hc]
    exact ⟨hge, by omega, hlen, h4⟩
def cntI (cs : List Int) (x : Int) : List Int := cnt cs x.toNat
theorem Ok.fold {n : Nat} : ∀ (l : List Int) {cs : List Int}, Ok n cs → (∀ x ∈ l, 0 ≤ x ∧ x < n) → Ok n (l.foldl cntI cs)
  | [], _, h, _ => h
  | x :: l, cs, h, hx => by
    have h1 := hx x (List.mem_cons_self ..)
    exact Ok.fold l (h.step (s := x.toNat) (by omega)).2.2 (fun y hy => hx y (List.mem_cons_of_mem _ hy))
end Go.Proofs.Ythegimfokcdehaa.MW
