import Derived.Test.YtckemiefcdpofaaDoorOrder
namespace Go.Proofs.YtckemiefcdpofaaDoor.ED
open Go Go.RowKit Go.Lib Go.Sort Go.Proofs.YtckemiefcdpofaaDoor.OR Go.Proofs.YtckemiefcdpofaaDoor.Mem Go.Proofs.YtckemiefcdpofaaDoor.PMsr Go.Proofs.YtckemiefcdpofaaDoorW.PrintWords Go.Proofs.YtckemiefcdpofaaDoorW.PrintLast Go.Proofs.YtckemiefcdpofaaDoorW.PrintMore
set_option linter.unusedVariables false
set_option linter.unnecessarySimpa false
set_option linter.unusedSimpArgs false
set_option maxRecDepth 100000
def k52 : Kd (Int × Int) := Kd.pair (Kd.int .i64) (Kd.int .i64)
theorem k52_mkM (w : World) (base : Nat) (ok : Nat → Prop) (x : Int × Int) : k52.M w base ok x [.int .i64 x.1, .int .i64 x.2] := ⟨[.int .i64 x.1], [.int .i64 x.2], rfl, rfl, rfl⟩
theorem k52_openM {w : World} {base : Nat} {ok : Nat → Prop} {x : Int × Int} {cs : List Value} (h : k52.M w base ok x cs) : cs = encE x := by
  obtain ⟨_, _, rfl, rfl, rfl⟩ := h
  rfl
theorem info52 : (Tryd.prog.info? 52).map (fun i => (i.zero, i.size, i.bytes)) = some (some (.agg #[.int .i64 0, .int .i64 0]), k52.sz, 16) := by kernel_rfl
def flat (l : List (Int × Int)) : List Value := l.flatMap encE
theorem flat_len (l : List (Int × Int)) : (flat l).length = l.length * 2 := by
  unfold flat
  induction l with
  | nil => rfl
  | cons x l ih => rw [List.flatMap_cons, List.length_append, ih, List.length_cons]; simp [encE]; omega
theorem flat_cons (x : Int × Int) (l : List (Int × Int)) : flat (x :: l) = .int .i64 x.1 :: .int .i64 x.2 :: flat l := rfl
theorem flat_get : ∀ (l : List (Int × Int)) (j : Nat), j < l.length → (flat l)[j * 2]? = some (.int .i64 (l.getD j (0, 0)).1) ∧ (flat l)[j * 2 + 1]? = some (.int .i64 (l.getD j (0, 0)).2)
  | [], j, h => by simp at h
  | x :: l, 0, h => by rw [flat_cons]; exact ⟨rfl, rfl⟩
  | x :: l, j + 1, h => by
    have ih := flat_get l j (by simpa using h)
    rw [flat_cons, show (j + 1) * 2 = j * 2 + 1 + 1 by omega]
    simpa using ih
theorem flat_of : ∀ (l : List (Int × Int)) (cs : List Value), cs.length = l.length * 2 → (∀ j p, l[j]? = some p → (cs.drop (j * 2)).take 2 = encE p) → cs = flat l
  | [], cs, h, _ => by
    have : cs = [] := List.eq_nil_of_length_eq_zero (by simpa using h)
    rw [this]; rfl
  | x :: l, cs, h, hp => by
    have h0 := hp 0 x rfl
    match cs, h with
    | a :: b :: cs, h =>
      have ih := flat_of l cs (by simp at h; omega) fun j p hj => by
        have := hp (j + 1) p (by simpa using hj)
        rw [show (j + 1) * 2 = j * 2 + 1 + 1 by omega] at this
        simpa using this
      rw [flat_cons, ← ih]
      simp [encE] at h0
      rw [h0.1, h0.2]
    | [a], h => simp at h; omega
    | [], h => simp at h
def RowE (w : World) (g : Nat) (l : List (Int × Int)) (cap : Nat) : Prop := ∃ cur, w.heap[g]? = some (.cells cur 52 (0, 0)) ∧ cur.size = cap * 2 ∧ l.length ≤ cap ∧ cap ≤ maxLen ∧ cur.toList.take (l.length * 2) = flat l
theorem rowE_of {w : World} {base : Nat} {ok : Nat → Prop} {v : Value} {l : List (Int × Int)} (h : Kd.R k52 52 w base ok v l) (hl : 0 < l.length) : ∃ g cap, v = .slice (some ⟨g, 0, none⟩) l.length cap ∧ base ≤ g ∧ ok g ∧ RowE w g l cap := by
  obtain ⟨h0, inner, ⟨hlen, hv⟩, hr⟩ := h
  rcases hv with ⟨_, hn⟩ | ⟨g, cap, cur, rfl, hb, hc, h1, h2, h3, h4⟩
  · omega
  · refine ⟨g, cap, rfl, hb, h0 g rfl, cur, hc, h3, h1, h2, ?_⟩
    have h5 : cur.toList.take (l.length * 2) = inner := h4
    rw [h5]
    exact flat_of l inner hr.1 fun j p hj => k52_openM (hr.2 j p hj)
theorem rowE_to {w : World} {base g cap : Nat} {ok : Nat → Prop} {l : List (Int × Int)} (h : RowE w g l cap) (hb : base ≤ g) (ho : ok g) : Kd.R k52 52 w base ok (.slice (some ⟨g, 0, none⟩) l.length cap) l := by
  obtain ⟨cur, hc, h3, h1, h2, h4⟩ := h
  refine ⟨fun k hk => by injection hk with hk; subst hk; exact ho, flat l, ⟨flat_len l, .inr ⟨g, cap, cur, rfl, hb, hc, h1, h2, h3, h4⟩⟩, flat_len l, fun j p hj => ?_⟩
  have hj2 : j < l.length := by
    rcases Nat.lt_or_ge j l.length with h | h
    · exact h
    · rw [List.getElem?_eq_none h] at hj; cases hj
  have hg := flat_get l j hj2
  have hp : l.getD j (0, 0) = p := by rw [List.getD_eq_getElem?_getD, hj]; rfl
  rw [hp] at hg
  have : ((flat l).drop (j * k52.sz)).take k52.sz = encE p := by
    show ((flat l).drop (j * 2)).take 2 = encE p
    refine List.ext_getElem? fun i => ?_
    rw [List.getElem?_take]
    split
    · rw [List.getElem?_drop]
      match i with
      | 0 => exact hg.1
      | 1 => exact hg.2
      | i + 2 => omega
    · rw [List.getElem?_eq_none (by simp [encE]; omega)]
  rw [this]
  exact k52_mkM _ _ _ p
theorem flatK_list (d : Array (Int × Int)) : (flatK encE 2 d).toList = flat d.toList := by
  refine flat_of d.toList _ (by simp) fun j p hj => ?_
  have hj2 : j < d.size := by
    rcases Nat.lt_or_ge j d.size with h | h
    · exact h
    · rw [Array.getElem?_toList, Array.getElem?_eq_none h] at hj; cases hj
  have hp : d[j]! = p := by
    rw [Array.getElem?_toList, Array.getElem?_eq_getElem hj2] at hj
    injection hj with hj
    rw [getElem!_pos d j hj2, hj]
  refine List.ext_getElem? fun i => ?_
  rw [List.getElem?_take]
  split
  · rename_i hi
    rw [List.getElem?_drop, Array.getElem?_toList]
    have hs : j * 2 + i < (flatK encE 2 d).size := by simp; omega
    rw [Array.getElem?_eq_getElem hs, ← getElem!_pos (flatK encE 2 d) _ hs, get_flatK encE 2 d _ (by simpa using hs), show (j * 2 + i) / 2 = j by omega, show (j * 2 + i) % 2 = i by omega, hp]
    match i, hi with
    | 0, _ => rfl
    | 1, _ => rfl
  · rw [List.getElem?_eq_none (by simp [encE]; omega)]
theorem holds_of {w : World} {g cap : Nat} {l : List (Int × Int)} (h : RowE w g l cap) : HoldsK encE 2 w g 0 l.toArray := by
  obtain ⟨cur, hc, h3, h1, h2, h4⟩ := h
  intro j hj
  have hB : Blk w g 52 cur := hc
  rw [Nat.zero_add]
  refine ⟨?_, hB.frozen j⟩
  rw [hB.cell j]
  have hj2 : j < l.length * 2 := by simpa using hj
  have hcj : cur[j]? = (flatK encE 2 l.toArray)[j]? := by
    have e := flatK_list l.toArray
    rw [← Array.getElem?_toList, ← Array.getElem?_toList, e, show l.toArray.toList = l by simp, ← h4, List.getElem?_take, if_pos hj2]
  rw [hcj, Array.getElem?_eq_getElem hj, getElem!_pos _ j hj]
  rfl
theorem sorted_row {w : World} {g cap : Nat} {l : List (Int × Int)} (h : RowE w g l cap) (d : List (Int × Int)) (hd : d.length = l.length) (n : Nat) (os : Array Obj) : RowE (sortWorldK encE 2 w g 0 n d.toArray os) g d cap := by
  obtain ⟨cur, hc, h3, h1, h2, h4⟩ := h
  have hlt : g < w.heap.size := Blk.lt (w := w) (t := 52) (cs := cur) hc
  refine ⟨putCells id 0 (flatK encE 2 d.toArray) cur, ?_, ?_, by omega, h2, ?_⟩
  · have e1 : (putRowK encE 2 (Sort.ahead w n) g 0 d.toArray).heap[g]? = some (.cells (putCells id 0 (flatK encE 2 d.toArray) cur) 52 (0, 0)) := by
      show ((Sort.ahead w n).heap.modify g _)[g]? = _
      rw [Array.getElem?_modify, if_pos rfl]
      show Option.map _ w.heap[g]? = _
      rw [hc]
      rfl
    have hsz : g < (putRowK encE 2 (Sort.ahead w n) g 0 d.toArray).heap.size := by
      rcases Nat.lt_or_ge g (putRowK encE 2 (Sort.ahead w n) g 0 d.toArray).heap.size with h | h
      · exact h
      · rw [Array.getElem?_eq_none h] at e1; cases e1
    show ((putRowK encE 2 (Sort.ahead w n) g 0 d.toArray).heap ++ os)[g]? = _
    rw [Array.getElem?_append_left hsz]
    exact e1
  · rw [← h3]; unfold putCells; simp
  · have e := flatK_list d.toArray
    rw [show d.toArray.toList = d by simp] at e
    rw [← e]
    refine List.ext_getElem? fun i => ?_
    rw [List.getElem?_take, Array.getElem?_toList, Array.getElem?_toList]
    split
    · rename_i hi
      have hF : i < (flatK encE 2 d.toArray).size := by simpa using hi
      unfold putCells
      rw [Array.getElem?_mapIdx, Array.getElem?_eq_getElem (by omega : i < cur.size), Option.map_some, if_pos ⟨Nat.zero_le _, by omega⟩, Array.getElem?_eq_getElem hF, Nat.sub_zero, getElem!_pos _ i hF]
      rfl
    · rename_i hi
      rw [Array.getElem?_eq_none (by simp; omega)]
theorem sorted_other {w : World} {g k : Nat} (hk : k ≠ g) (hlt : k < w.heap.size) (d : List (Int × Int)) (n : Nat) (os : Array Obj) : (sortWorldK encE 2 w g 0 n d.toArray os).heap[k]? = w.heap[k]? := by
  have e1 : (putRowK encE 2 (Sort.ahead w n) g 0 d.toArray).heap[k]? = w.heap[k]? := by
    show ((Sort.ahead w n).heap.modify g _)[k]? = _
    rw [Array.getElem?_modify, if_neg (fun h => hk h.symm)]
    rfl
  show ((putRowK encE 2 (Sort.ahead w n) g 0 d.toArray).heap ++ os)[k]? = _
  have hsz : k < (putRowK encE 2 (Sort.ahead w n) g 0 d.toArray).heap.size := by
    show k < ((Sort.ahead w n).heap.modify g _).size
    rw [Array.size_modify]
    exact hlt
  rw [Array.getElem?_append_left hsz]
  exact e1
theorem sorted_below {w : World} {g base : Nat} (hb : base ≤ g) (hs : base ≤ w.heap.size) (d : List (Int × Int)) (n : Nat) (os : Array Obj) : RowKit.Below base w (sortWorldK encE 2 w g 0 n d.toArray os) := by
  refine ⟨rfl, rfl, rfl, ?_, fun k hk => sorted_other (by omega) (by omega) d n os⟩
  show w.heap.size ≤ (((Sort.ahead w n).heap.modify g _) ++ os).size
  rw [Array.size_append, Array.size_modify]
  exact Nat.le_add_right _ _
end Go.Proofs.YtckemiefcdpofaaDoor.ED
