/- The model walked, in the coder seat. -/
import Derived.Test.YthegimfokcdehaaMem
import Derived.Test.YthegimfokcdehaaModelPure
namespace Go.Proofs.Ythegimfokcdehaa.MW
open Go Go.RowKit Go.Proofs.Ythegimfokcdehaa.Mem
set_option linter.unusedVariables false
structure IsM (w : World) (bp bs : Nat) (cs : List Int) (tot : Int) : Prop where
  head : Blk w bp 103 #[.slice (some ⟨bs, 0, none⟩) cs.length cs.length, .int .i64 tot]
  row : Blk w bs 3 (cs.map (Value.int .i64)).toArray
theorem right_calls (w : World) (bp bs : Nat) (cs : List Int) (tot s : Int) (h : IsM w bp bs cs tot) :
    Calls Try.prog 53 #[.pointer (some ⟨bp, 0, none⟩), .int .i64 s] w fun e w' => e = .returned (.bool (decide (0 ≤ s) && decide (s < cs.length))) ∧ w = w' := by
  have h0 : w.cell? ⟨bp, 0, none⟩ = some (.slice (some ⟨bs, 0, none⟩) cs.length cs.length) := h.head.cell 0
  by_cases h1 : 0 ≤ s
  · have d1 : decide (0 ≤ s) = true := decide_eq_true h1
    go_enter Try.func53, Try.ntmps53
    go_wp2
    go_ret
    exact ⟨by rw [d1]; simp, rfl⟩
  · have d1 : decide (0 ≤ s) = false := decide_eq_false h1
    go_enter Try.func53, Try.ntmps53
    go_wp2
    go_ret
    exact ⟨by simp, rfl⟩
theorem wrong_calls (w : World) (bp bs : Nat) (cs : List Int) (tot s : Int) (h : IsM w bp bs cs tot) :
    Calls Try.prog 55 #[.pointer (some ⟨bp, 0, none⟩), .int .i64 s] w fun e w' => e = .returned (.bool (!decide (0 ≤ s) || !decide (s < cs.length))) ∧ w = w' := by
  go_enter Try.func55, Try.ntmps55
  go_wp2_with (go_at_call 53; refine (right_calls _ _ _ _ _ _ h).mono ?_; rintro e w' ⟨rfl, rfl⟩)
  go_ret
  exact ⟨rfl, rfl⟩
theorem wrong_c (w : World) (bp bs : Nat) (cs : List Int) (tot s : Int) (h : IsM w bp bs cs tot) :
    Calls Try.prog 55 #[.pointer (some ⟨bp, 0, none⟩), .int .i64 s] w fun e w' => e = .returned (.bool (out cs.length s)) ∧ w = w' := wrong_calls w bp bs cs tot s h
theorem index_calls (w : World) (bp bs : Nat) (cs : List Int) (tot : Int) (h : IsM w bp bs cs tot) (A : Option Addr) (l : List Int) (c : Nat) (hl : l.length ≤ maxLen)
    (hr : ∀ i, i < l.length → ∃ a, A = some a ∧ w.cell? (a.add i) = some (.int .i64 (l.getD i 0))) :
    Calls Try.prog 57 #[.slice A l.length c, .func (.func 55) #[.pointer (some ⟨bp, 0, none⟩)] #[]] w fun e w' => e = .returned (.int .i64 (fb cs.length l 0)) ∧ w = w' := by
  unfold maxLen at hl
  have HR := Lib.hid hr
  clear hr
  go_enter Try.func57, Try.ntmps57
  go_wp2
  go_loop [8, 5] (fun i _ => ∃ k : Nat, k ≤ l.length ∧ i = .int .i64 k ∧ Hid (fb cs.length l 0 = fb cs.length (l.drop k) k)) (fun i _ => l.length - (intOf i).toNat)
  case atStart => exact ⟨0, Nat.zero_le _, rfl, Lib.hid rfl⟩
  case round =>
    obtain ⟨k, hk, rfl, hf⟩ := hrel
    by_cases hlt : k < l.length
    · obtain ⟨a, rfl, hcell⟩ := HR.out k hlt
      have hd : l.drop k = l.getD k 0 :: l.drop (k + 1) := by
        rw [List.drop_eq_getElem_cons hlt, List.getD_eq_getElem?_getD, List.getElem?_eq_getElem hlt]; rfl
      generalize l.getD k 0 = x at *
      have hf' : Hid (fb cs.length l 0 = if out cs.length x = true then (k : Int) else fb cs.length (l.drop (k + 1)) ((k : Int) + 1)) := by
        have := hf.out
        rw [hd] at this
        exact this
      clear hf hd
      cases hb : out cs.length x with
      | true =>
        have HB := Lib.hid hb
        clear hb
        go_wp2_with (go_at_call 55; refine (wrong_c _ _ _ _ _ _ h).mono ?_; rintro e w' ⟨rfl, rfl⟩; rw [HB.out])
        go_ret
        refine ⟨?_, rfl⟩
        have h1 := hf'.out
        rw [HB.out, if_pos rfl] at h1
        rw [h1]
        rfl
      | false =>
        have HB := Lib.hid hb
        clear hb
        go_wp2_with (go_at_call 55; refine (wrong_c _ _ _ _ _ _ h).mono ?_; rintro e w' ⟨rfl, rfl⟩; rw [HB.out])
        go_round
        case rel =>
          refine ⟨k + 1, by omega, by go_num, Lib.hid ?_⟩
          have h1 := hf'.out
          rw [HB.out, if_neg (by decide)] at h1
          exact h1
        case measure => simp [intOf]; omega
    · have hk' : k = l.length := by omega
      go_wp2
      go_ret
      refine ⟨?_, rfl⟩
      have h1 := hf.out
      rw [List.drop_of_length_le (by omega)] at h1
      rw [h1]
      rfl
theorem contains_calls (w : World) (bp bs : Nat) (cs : List Int) (tot : Int) (h : IsM w bp bs cs tot) (A : Option Addr) (l : List Int) (c : Nat) (hl : l.length ≤ maxLen)
    (hr : ∀ i, i < l.length → ∃ a, A = some a ∧ w.cell? (a.add i) = some (.int .i64 (l.getD i 0))) :
    Calls Try.prog 54 #[.slice A l.length c, .func (.func 55) #[.pointer (some ⟨bp, 0, none⟩)] #[]] w fun e w' => e = .returned (.bool (decide (0 ≤ fb cs.length l 0))) ∧ w = w' := by
  have HR := Lib.hid hr
  clear hr
  go_enter Try.func54, Try.ntmps54
  go_wp2_with (go_at_call 57; refine (index_calls _ _ _ _ _ h _ _ _ hl HR.out).mono ?_; rintro e w' ⟨rfl, rfl⟩)
  go_ret
  exact ⟨rfl, rfl⟩
theorem total_calls (w : World) (bp bs : Nat) (cs : List Int) (tot : Int) (h : IsM w bp bs cs tot) :
    Calls Try.prog 46 #[.pointer (some ⟨bp, 0, none⟩)] w fun e w' => e = .returned (.int .i64 tot) ∧ w = w' := by
  have h1 : w.cell? ⟨bp, 1, none⟩ = some (.int .i64 tot) := h.head.cell 1
  go_enter Try.func46, Try.ntmps46
  go_wp2
  go_ret
  exact ⟨rfl, rfl⟩
theorem row_cell {w : World} {bp bs : Nat} {cs : List Int} {tot : Int} (h : IsM w bp bs cs tot) {k : Nat} (hk : k < cs.length) : w.cell? ⟨bs, k, none⟩ = some (.int .i64 (cs.getD k 0)) := by
  rw [h.row.cell k]
  simp [List.getD_eq_getElem?_getD, List.getElem?_eq_getElem hk]
theorem share_ok (w : World) (bp bs : Nat) (cs : List Int) (tot : Int) (h : IsM w bp bs cs tot) (hi : Inv cs) (s : Nat) (hs : s < cs.length) :
    Calls Try.prog 48 #[.pointer (some ⟨bp, 0, none⟩), .int .i64 s] w fun e w' => e = .returned (.tuple #[.int .i64 (cs.take s).sum, .int .i64 (cs.getD s 0), .int .i64 0]) ∧ ∃ n, w' = w.drewN n := by
  have h0 : w.cell? ⟨bp, 0, none⟩ = some (.slice (some ⟨bs, 0, none⟩) cs.length cs.length) := h.head.cell 0
  have hl := hi.2.2
  have hcell := row_cell h hs
  have d1 : decide (0 ≤ (s : Int)) = true := decide_eq_true (by omega)
  have d2 : decide ((s : Int) < (cs.length : Int)) = true := decide_eq_true (by omega)
  generalize hx : cs.getD s 0 = x at hcell ⊢
  have HX := Lib.hid hx
  clear hx
  go_enter Try.func48, Try.ntmps48
  go_wp2_with (go_at_call 53; refine (right_calls _ _ _ _ _ _ h).mono ?_; rintro e w' ⟨rfl, rfl⟩)
  go_loop [25, 7] (fun i v => ∃ k : Nat, k ≤ s ∧ i = .int .i64 k ∧ v = .int .i64 (cs.take k).sum) (fun i _ => s - (intOf i).toNat)
  case atStart => exact ⟨0, Nat.zero_le _, rfl, rfl⟩
  case round =>
    obtain ⟨k, hk, rfl, rfl⟩ := hrel
    by_cases hlt : k < s
    · obtain ⟨_, p2, p3, p4, p5⟩ := hi.part (k := k) (by omega)
      have hck := row_cell h (k := k) (by omega)
      have P2 := Lib.hid p2
      clear p2
      generalize cs.getD k 0 = x at *
      go_wp2
      go_round
      case rel => exact ⟨k + 1, by omega, by go_num, by rw [P2.out]⟩
      case measure => simp [intOf]; omega
    · have hk' : k = s := by omega
      subst hk'
      go_wp2
      go_quiet (fail)
      go_wp2
      go_ret3
      exact ⟨rfl, _, rfl⟩
theorem share_bad (w : World) (bp bs : Nat) (cs : List Int) (tot : Int) (h : IsM w bp bs cs tot) (s : Int) (hs : s < 0 ∨ (cs.length : Int) ≤ s) :
    Calls Try.prog 48 #[.pointer (some ⟨bp, 0, none⟩), .int .i64 s] w fun e w' => e = .returned (.tuple #[.int .i64 0, .int .i64 0, .int .i64 2]) ∧ ∃ n, w' = w.drewN n := by
  have hb : (decide (0 ≤ s) && decide (s < (cs.length : Int))) = false := by
    rcases hs with h' | h'
    · rw [decide_eq_false (by omega)]; rfl
    · rw [decide_eq_false (p := s < (cs.length : Int)) (by omega)]; simp
  have HB := Lib.hid hb
  clear hb hs
  go_enter Try.func48, Try.ntmps48
  go_wp2_with (go_at_call 53; refine (right_calls _ _ _ _ _ _ h).mono ?_; rintro e w' ⟨rfl, rfl⟩; rw [HB.out])
  go_ret3
  exact ⟨rfl, 0, rfl⟩
theorem find_ok (w : World) (bp bs : Nat) (cs : List Int) (tot : Int) (h : IsM w bp bs cs tot) (hi : Inv cs) (v : Int) (h0 : 0 ≤ v) (h1 : v < tot) (hvb : v ≤ 100000) :
    Calls Try.prog 47 #[.pointer (some ⟨bp, 0, none⟩), .int .i64 v] w fun e w' => e = .returned (.tuple #[.int .i64 (findL cs 0 v), .int .i64 0]) ∧ w = w' := by
  have hc0 : w.cell? ⟨bp, 0, none⟩ = some (.slice (some ⟨bs, 0, none⟩) cs.length cs.length) := h.head.cell 0
  have hc1 : w.cell? ⟨bp, 1, none⟩ = some (.int .i64 tot) := h.head.cell 1
  have hl := hi.2.2
  have d1 : decide (v < 0) = false := decide_eq_false (by omega)
  have d2 : decide (tot ≤ v) = false := decide_eq_false (by omega)
  generalize hfv : findL cs 0 v = f
  have HF := Lib.hid hfv
  clear hfv
  go_enter Try.func47, Try.ntmps47
  go_wp2
  apply scope_body
  go_wp2
  go_step3
  go_wp2
  clear d1 d2 h1
  go_loop [28, 1, 6] (fun i x y => ∃ (k : Nat) (u : Int), k ≤ cs.length ∧ i = .int .i64 k ∧ x = .int .i64 u ∧ y = .int .i64 0 ∧ -100000 ≤ u ∧ u ≤ 100000 ∧ Hid (f = findL (cs.drop k) k u) ∧ Hid (-(cs.take k).sum ≤ u)) (fun i _ _ => cs.length - (intOf i).toNat)
  case atStart => exact ⟨0, v, Nat.zero_le _, rfl, rfl, rfl, by omega, by omega, Lib.hid HF.out.symm, Lib.hid (by simp; omega)⟩
  case round =>
    obtain ⟨k, u, hk, rfl, rfl, rfl, hu0, hu1, hf, hlo⟩ := hrel
    by_cases hlt : k < cs.length
    · obtain ⟨p1, p2, p3, p4, p5⟩ := hi.part (k := k) hlt
      have hck := row_cell h (k := k) hlt
      generalize cs.getD k 0 = x at *
      have hf' : Hid (f = if u < x then (k : Int) else findL (cs.drop (k + 1)) ((k : Int) + 1) (u - x)) := by
        have := hf.out
        rw [p1] at this
        exact this
      have hlo' : -(cs.take (k + 1)).sum ≤ u - x := by have := hlo.out; omega
      have hx1 : x ≤ 10000 := by omega
      have hux : -100000 ≤ u - x := by have := hlo.out; omega
      have HLO := Lib.hid hlo'
      clear hlo' hf hlo p1 p2 p3 p4
      by_cases hvx : u < x
      · have d3 : decide (u < x) = true := decide_eq_true hvx
        go_wp2
        go_ret2
        refine ⟨?_, rfl⟩
        have h1 := hf'.out
        rw [if_pos hvx] at h1
        rw [h1]
        rfl
      · have d3 : decide (u < x) = false := decide_eq_false hvx
        go_wp2
        go_round
        case rel =>
          refine ⟨k + 1, u - x, by omega, by go_num, rfl, rfl, hux, by omega, Lib.hid ?_, HLO⟩
          have h1 := hf'.out
          rw [if_neg hvx] at h1
          exact h1
        case measure => simp [intOf]; omega
    · go_wp2
      go_ret2
      refine ⟨?_, rfl⟩
      have h1 := hf.out
      rw [List.drop_of_length_le (by omega)] at h1
      rw [h1]
      rfl
theorem make_zeros (n : Nat) : madeCells (Value.int .i64 0).cells (n * 1) = ((List.replicate n (0 : Int)).map (Value.int .i64)).toArray := by
  apply Array.ext
  · simp [madeCells]
  · intro i h1 h2
    simp only [madeCells, Value.cells, Array.getElem_map, Array.getElem_range, List.getElem_toArray, List.getElem_map, List.getElem_replicate]
    rw [show #[Value.int IntKind.i64 0].size = 1 from rfl, Nat.mod_one]
    rfl
theorem info3 : (Try.prog.info? 3).map (fun i => (i.zero, i.size, i.bytes)) = some (some (.int .i64 0), 1, 8) := by kernel_rfl
theorem run_make_ints (n : Nat) (hn : n ≤ 100000) (w : World) :
    (Instr.makeSlice 22 (.int .i64 (n : Int)) (.int .i64 (n : Int))).run Try.prog w = .ok (.slice (some ⟨w.heap.size, 0, none⟩) n n) (w.alloc (.cells ((List.replicate n (0 : Int)).map (Value.int .i64)).toArray 3)) := by
  obtain ⟨i, hi, hz, hs, hb⟩ := info_parts info3
  have hr := run_make (P := Try.prog) w 22 3 i (.int .i64 0) Try.underlying22 hi hz .i64 .i64 n n (by omega) (by omega) (by rw [hb]; omega) (by omega)
  simp only [Int.toNat_natCast, hs] at hr
  rw [make_zeros] at hr
  exact hr
theorem IsM.ne {w : World} {bp bs : Nat} {cs : List Int} {tot : Int} (h : IsM w bp bs cs tot) : bp ≠ bs := h.head.ne_ h.row (by decide)
theorem IsM.put {w : World} {bp bs : Nat} {cs : List Int} {tot : Int} (h : IsM w bp bs cs tot) (k : Nat) (x : Int) : IsM (w.setCell ⟨bs, k, none⟩ (.int .i64 x)) bp bs (cs.set k x) tot := by
  have hne := h.ne
  refine ⟨?_, ?_⟩
  · rw [List.length_set]
    exact h.head.far (p := ⟨bs, k, none⟩) hne _
  · have := h.row.set_ k (.int .i64 x)
    rwa [List.setIfInBounds_toArray, ← List.map_set] at this
theorem IsM.putT {w : World} {bp bs : Nat} {cs : List Int} {tot : Int} (h : IsM w bp bs cs tot) (x : Int) : IsM (w.setCell ⟨bp, 1, none⟩ (.int .i64 x)) bp bs cs x := by
  have hne := h.ne
  refine ⟨?_, ?_⟩
  · have := h.head.set_ 1 (.int .i64 x)
    exact this
  · exact h.row.far (p := ⟨bp, 1, none⟩) (Ne.symm hne) _
theorem IsM.drewN {w : World} {bp bs : Nat} {cs : List Int} {tot : Int} (h : IsM w bp bs cs tot) (n : Nat) : IsM (w.drewN n) bp bs cs tot := ⟨h.head, h.row⟩
theorem IsM.drew {w : World} {bp bs : Nat} {cs : List Int} {tot : Int} (h : IsM w bp bs cs tot) : IsM w.drew bp bs cs tot := ⟨h.head, h.row⟩
theorem new_bad (w : World) (n : Int) (hn : n < 1 ∨ 256 < n) : Calls Try.prog 39 #[.int .i64 n] w fun e w' => e = .returned (.tuple #[.pointer none, .int .i64 2]) ∧ w = w' := by
  by_cases h1 : n < 1
  · have d1 : decide (n < 1) = true := decide_eq_true h1
    go_enter Try.func39, Try.ntmps39
    go_wp2
    go_ret2
    exact ⟨rfl, rfl⟩
  · have d1 : decide (n < 1) = false := decide_eq_false h1
    have d2 : decide (256 < n) = true := decide_eq_true (by omega)
    go_enter Try.func39, Try.ntmps39
    go_wp2
    go_ret2
    exact ⟨rfl, rfl⟩
theorem new_ok (w : World) (n : Nat) (h1 : 1 ≤ n) (h2 : n ≤ 256) : Calls Try.prog 39 #[.int .i64 n] w fun e w' => ∃ bp bs, e = .returned (.tuple #[.pointer (some ⟨bp, 0, none⟩), .int .i64 0]) ∧ IsM w' bp bs (List.replicate n 1) n ∧ w.heap.size ≤ bp ∧ w.heap.size ≤ bs ∧ Below w.heap.size w w' := by
  have d1 : decide ((n : Int) < 1) = false := decide_eq_false (by omega)
  have d2 : decide (256 < (n : Int)) = false := decide_eq_false (by omega)
  have d3 : decide (256 < n) = false := decide_eq_false (by omega)
  have hmk := fun W => run_make_ints n (by omega) W
  go_enter Try.func39, Try.ntmps39
  go_wp2
  go_loopw [22] (fun i wr => ∃ k : Nat, k ≤ n ∧ i = .int .i64 k ∧ IsM wr (w.heap.size + 1) w.heap.size (List.replicate k 1 ++ List.replicate (n - k) 0) n ∧ Below w.heap.size w wr) (fun i _ => n - (intOf i).toNat)
  case atStart =>
    refine ⟨0, Nat.zero_le _, rfl, ⟨?_, ?_⟩, ((Below.refl _ _).alloc (Nat.le_refl _) _).alloc (by simp) _⟩
    · simp only [List.replicate_zero, List.nil_append, Nat.sub_zero, List.length_replicate]
      have := heap_alloc_new (w.alloc (.cells (Array.replicate n (.int .i64 0)) 3)) (.cells #[.slice (some ⟨w.heap.size, 0, none⟩) n n, .int .i64 n] 103)
      simpa [Blk] using this
    · simp only [List.replicate_zero, List.nil_append, Nat.sub_zero]
      have h1 := heap_alloc_new w (.cells (Array.replicate n (.int .i64 0)) 3)
      have h2 := Below.heap_alloc (w.alloc (.cells (Array.replicate n (.int .i64 0)) 3)) (.cells #[.slice (some ⟨w.heap.size, 0, none⟩) n n, .int .i64 n] 103) w.heap.size (by simp)
      rw [h1] at h2
      simpa [Blk] using h2
  case round =>
    obtain ⟨k, hk, rfl, hm, hb⟩ := hrel
    have c0 : wr.cell? ⟨w.heap.size + 1, 0, none⟩ = some (.slice (some ⟨w.heap.size, 0, none⟩) n n) := by
      rw [hm.head.cell 0]
      simp
      omega
    by_cases hlt : k < n
    · have hcell := row_cell hm (k := k) (by simp; omega)
      have hfr := hm.row.frozen k
      have hset := set_rep n k hlt
      have HS := Lib.hid hset
      clear hset
      generalize (List.replicate k (1 : Int) ++ List.replicate (n - k) 0).getD k 0 = x at *
      go_wp2
      go_roundw
      case rel =>
        refine ⟨k + 1, by omega, by go_num, ?_, hb.setCell (by simp) _⟩
        have := hm.put k 1
        rw [HS.out] at this
        exact this
      case measure => simp [intOf]; omega
    · obtain rfl : k = n := by omega
      go_wp2
      go_ret2
      refine ⟨w.heap.size + 1, w.heap.size, rfl, ?_, by omega, by omega, hb⟩
      simpa using hm
theorem halve_calls (w : World) (bp bs : Nat) (cs : List Int) (tot : Int) (h : IsM w bp bs cs tot) (hi : Inv cs) :
    Calls Try.prog 56 #[.pointer (some ⟨bp, 0, none⟩)] w fun e w' => e = .returned (.tuple #[]) ∧ IsM w' bp bs (halfL cs) (halfL cs).sum ∧ Only w w' bp bs := by
  have c0 : w.cell? ⟨bp, 0, none⟩ = some (.slice (some ⟨bs, 0, none⟩) cs.length cs.length) := h.head.cell 0
  have c1 : w.cell? ⟨bp, 1, none⟩ = some (.int .i64 tot) := h.head.cell 1
  have f1 : w.frozen? ⟨bp, 1, none⟩ = false := h.head.frozen 1
  have hne := h.ne
  have hl := hi.2.2
  go_enter Try.func56, Try.ntmps56
  go_wp2
  go_loopw [12] (fun i wr => ∃ k : Nat, k ≤ cs.length ∧ i = .int .i64 k ∧ IsM wr bp bs ((cs.take k).map hf ++ cs.drop k) ((cs.take k).map hf).sum ∧ Only w wr bp bs) (fun i _ => cs.length - (intOf i).toNat)
  case atStart =>
    refine ⟨0, Nat.zero_le _, rfl, ?_, (Only.refl _ _ _).setCell (.inl rfl) _⟩
    exact h.putT 0
  case round =>
    obtain ⟨k, hk, rfl, hm, ho⟩ := hrel
    by_cases hlt : k < cs.length
    · obtain ⟨p1, p2, p3, p4, p5⟩ := hi.part (k := k) hlt
      have hlen : ((cs.take k).map hf ++ cs.drop k).length = cs.length := by simp; omega
      have r0 : wr.cell? ⟨bp, 0, none⟩ = some (.slice (some ⟨bs, 0, none⟩) cs.length cs.length) := by
        have := hm.head.cell 0
        rw [hlen] at this
        exact this
      have r1 : wr.cell? ⟨bp, 1, none⟩ = some (.int .i64 ((cs.take k).map hf).sum) := hm.head.cell 1
      have rf1 : wr.frozen? ⟨bp, 1, none⟩ = false := hm.head.frozen 1
      have rk := row_cell hm (k := k) (by omega)
      rw [half_at cs k hlt] at rk
      have rfk : wr.frozen? ⟨bs, k, none⟩ = false := hm.row.frozen k
      have hs1 := half_sum cs k hlt
      have hs2 := half_set cs k hlt
      have hb1 := half_le (cs.take k) (fun c hc => hi.1 c (List.mem_of_mem_take hc))
      have hput := (hm.put k (hf (cs.getD k 0))).putT (((cs.take k).map hf).sum + hf (cs.getD k 0))
      rw [hs2] at hput
      have HP := Lib.hid hput
      have HS := Lib.hid hs1
      clear hs1 hs2 hput p1 p2 hlen
      have hle : hf (cs.getD k 0) ≤ 10000 ∧ 0 ≤ hf (cs.getD k 0) := by unfold hf; omega
      have hsum0 : 0 ≤ ((cs.take k).map hf).sum := hb1.1
      have hsum1 : ((cs.take k).map hf).sum ≤ 10000 := by omega
      unfold hf at hle
      generalize hx : cs.getD k 0 = x at *
      have HX := Lib.hid hx
      generalize ht : ((cs.take k).map hf).sum = t at *
      have HT := Lib.hid ht
      clear hx ht hb1 h c0 c1 f1
      go_wp2
      go_region
      all_goals
        go_wp2
        go_roundw
        case rel =>
          refine ⟨k + 1, by omega, by go_num, ?_, ?_⟩
          · have hp := HP.out
            rw [HS.out]
            exact hp.drew
          · exact ((ho.setCell (p := ⟨bs, k, none⟩) (.inr rfl) _).setCell (p := ⟨bp, 1, none⟩) (.inl rfl) _).drew
        case measure => simp [intOf]; omega
    · obtain rfl : k = cs.length := by omega
      go_wp2
      go_end0
      refine ⟨rfl, ?_, ho⟩
      rw [List.take_length, List.drop_length, List.append_nil] at hm
      exact hm
set_option maxHeartbeats 1000000 in
theorem count_ok (w : World) (bp bs : Nat) (cs : List Int) (n : Nat) (h : IsM w bp bs cs cs.sum) (hok : Ok n cs) (A : Option Addr) (l : List Int) (c : Nat) (hl : l.length ≤ maxLen)
    (hr : ∀ i, i < l.length → ∃ a, A = some a ∧ a.block < w.heap.size ∧ a.block ≠ bp ∧ a.block ≠ bs ∧ w.cell? (a.add i) = some (.int .i64 (l.getD i 0))) (hgood : ∀ x ∈ l, 0 ≤ x ∧ x < n) :
    Calls Try.prog 51 #[.pointer (some ⟨bp, 0, none⟩), .slice A l.length c] w fun e w' => e = .returned (.int .i64 0) ∧ IsM w' bp bs (l.foldl cntI cs) (l.foldl cntI cs).sum ∧ Only w w' bp bs := by
  have hfb := fb_none cs.length l 0 (by rw [hok.2.2.1]; exact hgood)
  have hd : decide (0 ≤ fb cs.length l 0) = false := by rw [hfb]; rfl
  have HD := Lib.hid hd
  have HR := Lib.hid hr
  have HG := Lib.hid hgood
  have HOK := Lib.hid hok
  clear hr hd hfb hgood hok
  unfold maxLen at hl
  have hne := h.ne
  go_enter Try.func51, Try.ntmps51
  go_wp2_with (go_at_call 54; refine (contains_calls _ _ _ _ _ h _ _ _ (by unfold maxLen; omega) (fun i hi => let ⟨a, e1, _, _, _, e2⟩ := HR.out i hi; ⟨a, e1, e2⟩)).mono ?_; rintro e w' ⟨rfl, rfl⟩; rw [HD.out])
  go_loopw [15] (fun i wr => ∃ k : Nat, k ≤ l.length ∧ i = .int .i64 k ∧ Hid (IsM wr bp bs ((l.take k).foldl cntI cs) ((l.take k).foldl cntI cs).sum) ∧ Hid (Only w wr bp bs)) (fun i _ => l.length - (intOf i).toNat)
  case atStart => exact ⟨0, Nat.zero_le _, rfl, Lib.hid h, Lib.hid (Only.refl _ _ _)⟩
  case round =>
    obtain ⟨k, hk, rfl, hm, ho⟩ := hrel
    by_cases hlt : k < l.length
    · obtain ⟨a, rfl, ha1, ha2, ha3, hcell⟩ := HR.out k hlt
      have hg : l.getD k 0 = l[k] := by rw [List.getD_eq_getElem?_getD, List.getElem?_eq_getElem hlt]; rfl
      have hx := HG.out l[k] (List.getElem_mem hlt)
      rw [← hg] at hx
      have ht : (l.take (k + 1)).foldl cntI cs = cntI ((l.take k).foldl cntI cs) (l.getD k 0) := by
        rw [List.take_succ_eq_append_getElem hlt, List.foldl_append, hg]; rfl
      have hcur := Ok.fold (l.take k) HOK.out (fun x hx => HG.out x (List.mem_of_mem_take hx))
      have hcw : wr.cell? (a.add k) = some (.int .i64 (l.getD k 0)) := by
        have hbl : (a.add k).block = a.block := by unfold Addr.add; split <;> rfl
        rw [← hcell]
        exact World.cell?_of_block (ho.out.block (a.add k).block (by rw [hbl]; exact ha1) (by rw [hbl]; exact ha2) (by rw [hbl]; exact ha3))
      have HT := Lib.hid ht
      clear ht hg hcell
      generalize l.getD k 0 = x at *
      obtain ⟨s, rfl⟩ := Int.eq_ofNat_of_zero_le hx.1
      have hs : s < n := by omega
      generalize (l.take k).foldl cntI cs = cur at *
      have hm' := hm.out
      have hst := hcur.step hs
      have hl2 : cur.length = n := hcur.2.2.1
      have hl3 := hcur.2.2.2
      have hsum0 := sum_nonneg cur hcur.1
      have hsum1 := hcur.2.1
      have r0 : wr.cell? ⟨bp, 0, none⟩ = some (.slice (some ⟨bs, 0, none⟩) cur.length cur.length) := hm'.head.cell 0
      have r1 : wr.cell? ⟨bp, 1, none⟩ = some (.int .i64 cur.sum) := hm'.head.cell 1
      have rf1 : wr.frozen? ⟨bp, 1, none⟩ = false := hm'.head.frozen 1
      have rk := row_cell hm' (k := s) (by omega)
      have rfk : wr.frozen? ⟨bs, s, none⟩ = false := hm'.row.frozen s
      have hput := (hm'.put s (cur.getD s 0 + 32)).putT (cur.sum + 32)
      have hOnly := (ho.out.setCell (p := ⟨bs, s, none⟩) (.inr rfl) (.int .i64 (cur.getD s 0 + 32))).setCell (p := ⟨bp, 1, none⟩) (.inl rfl) (.int .i64 (cur.sum + 32))
      have hpart := (hcur.inv.part (k := s) (by omega))
      have hv0 : 1 ≤ cur.getD s 0 := hpart.2.2.2.2
      have hv1 : cur.getD s 0 ≤ 10000 := by have := hpart.2.2.1; have := hpart.2.2.2.1; omega
      have HP := Lib.hid hput
      have HO := Lib.hid hOnly
      have HST := Lib.hid hst
      have HCUR := Lib.hid hcur
      clear hput hOnly hst hcur hpart hm hm' ho hx ha1 ha2 ha3
      generalize hv : cur.getD s 0 = v at *
      have HV := Lib.hid hv
      clear hv
      generalize hT : cur.sum = T at *
      have HTT := Lib.hid hT
      clear hT
      by_cases hbig : 8192 < T + 32
      · have d1 : decide (8192 < T + 32) = true := decide_eq_true hbig
        go_wp2_with (go_at_call 56; refine (halve_calls _ _ _ _ _ HP.out HST.out.2.1).mono ?_; rintro e w' ⟨rfl, hm2, ho2⟩)
        go_roundw
        case rel =>
          refine ⟨k + 1, by omega, by go_num, Lib.hid ?_, Lib.hid (HO.out.trans ho2)⟩
          rw [HT.out]
          have e : cntI cur (s : Int) = halfL (cur.set s (v + 32)) := by
            unfold cntI cnt
            rw [Int.toNat_natCast, HV.out, if_pos]
            rw [HST.out.1]
            exact hbig
          rw [e]
          exact hm2
        case measure => simp [intOf]; omega
      · have d1 : decide (8192 < T + 32) = false := decide_eq_false hbig
        go_wp2
        go_roundw
        case rel =>
          refine ⟨k + 1, by omega, by go_num, Lib.hid ?_, Lib.hid HO.out⟩
          rw [HT.out]
          have e : cntI cur (s : Int) = cur.set s (v + 32) := by
            unfold cntI cnt
            rw [Int.toNat_natCast, HV.out, if_neg]
            rw [HST.out.1]
            exact hbig
          rw [e, HST.out.1]
          exact HP.out
        case measure => simp [intOf]; omega
    · obtain rfl : k = l.length := by omega
      go_wp2
      go_ret
      refine ⟨rfl, ?_, ho.out⟩
      have := hm.out
      rw [List.take_length] at this
      exact this
end Go.Proofs.Ythegimfokcdehaa.MW
