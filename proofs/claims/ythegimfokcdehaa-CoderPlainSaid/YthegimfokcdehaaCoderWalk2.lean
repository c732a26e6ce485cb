/- The coder walked: plain, whole, share, count, find. -/
import Derived.Test.YthegimfokcdehaaCoderWalk
import Derived.Test.YthegimfokcdehaaQuiets
namespace Go.Proofs.Ythegimfokcdehaa.CW
open Go Go.RowKit Go.Proofs.Ythegimfokcdehaa.Mem Go.Proofs.Ythegimfokcdehaa.CM Go.Proofs.Ythegimfokcdehaa.MW Go.Proofs.Ythegimfokcdehaa.PCod Go.Proofs.YthegimfokcdehaaW.PrintWords Go.Proofs.YthegimfokcdehaaW.PrintLast Go.Proofs.YthegimfokcdehaaW.PrintMore
attribute [local go_sem] max2_int min2_int max_two min_two max_three min_three max_four min_four
set_option linter.unusedVariables false
set_option linter.unusedSimpArgs false
def isP (k : Int) : Bool := decide (isPlain k)
theorem isP_iff {k : Int} : isP k = true ↔ isPlain k := by unfold isP; exact decide_eq_true_iff
/-- The number that coder.plain hands back; for what is no plain symbol nobody looks at it. -/
def PlainPost (k : Int) (w : World) (e : Ending) (w' : World) : Prop := ∃ n, e = .returned (.tuple #[.int .i64 n, .bool (isP k)]) ∧ (isPlain k → n = CM.bits k) ∧ w = w'
theorem PlainPost.no {k n : Int} {w : World} (h : ¬ isPlain k) : PlainPost k w (.returned (.tuple #[.int .i64 n, .bool false])) w :=
  ⟨n, by rw [show isP k = false from Bool.eq_false_iff.2 fun e => h (isP_iff.1 e)], fun e => absurd e h, rfl⟩
theorem PlainPost.yes {k n : Int} {w : World} (h : isPlain k) (e : n = CM.bits k) : PlainPost k w (.returned (.tuple #[.int .i64 n, .bool true])) w :=
  ⟨n, by rw [show isP k = true from isP_iff.2 h], fun _ => e, rfl⟩
theorem plain30 (w : World) (k : Int) (h0 : -9223372036854775808 ≤ k) (h1 : k < 9223372036854775808) :
    Calls Try.prog 30 #[.int .i64 k] w (PlainPost k w) := by
  by_cases hk : k < 0
  · have d1 : decide (k < 0) = true := decide_eq_true hk
    by_cases h2 : -16 ≤ k
    · have d2 : decide (-16 ≤ k) = true := decide_eq_true h2
      go_enter Try.func30, Try.ntmps30
      go_wp2
      go_ret2
      refine PlainPost.yes ⟨hk, h2⟩ ?_
      have hb := bits_bound hk h2
      show wrap64 (CM.bits k) = CM.bits k
      unfold wrap64
      omega
    · have d2 : decide (-16 ≤ k) = false := decide_eq_false h2
      have hn : ¬ isPlain k := fun h => h2 h.2
      have HN := Lib.hid hn
      clear hn
      go_enter Try.func30, Try.ntmps30
      go_wp2
      all_goals
        go_ret2
        exact PlainPost.no HN.out
  · have d1 : decide (k < 0) = false := decide_eq_false hk
    have hn : ¬ isPlain k := fun h => hk h.1
    have HN := Lib.hid hn
    clear hn
    go_enter Try.func30, Try.ntmps30
    go_wp2
    all_goals
      go_ret2
      exact PlainPost.no HN.out
/-! ### the models behind a slice of pointers -/
def ptrK : Kd Nat := Kd.scalar (fun p => Value.pointer (some ⟨p, 0, none⟩)) (fun _ => rfl)
structure IsMs (w : World) (B : Nat) (mv : Value) (ps : List (Nat × Nat)) (C : List (List Int)) : Prop where
  len : ps.length = C.length
  row : Kd.R ptrK 87 w B (fun _ => True) mv (ps.map Prod.fst)
  mod : ∀ i, i < C.length → IsM w (ps.getD i (0, 0)).1 (ps.getD i (0, 0)).2 (C.getD i []) (C.getD i []).sum ∧ B ≤ (ps.getD i (0, 0)).1 ∧ B ≤ (ps.getD i (0, 0)).2
  inj : ∀ i j, i < C.length → j < C.length → i ≠ j → (ps.getD i (0, 0)).1 ≠ (ps.getD j (0, 0)).1 ∧ (ps.getD i (0, 0)).2 ≠ (ps.getD j (0, 0)).2
theorem IsMs.slice {w : World} {B : Nat} {mv : Value} {ps : List (Nat × Nat)} {C : List (List Int)} (h : IsMs w B mv ps C) : ∃ A c, mv = .slice A C.length c := by
  obtain ⟨A, c, e⟩ := Kd.R_slice h.row
  rw [List.length_map, h.len] at e
  exact ⟨A, c, e⟩
theorem IsMs.at_ {w : World} {B : Nat} {mv : Value} {ps : List (Nat × Nat)} {C : List (List Int)} (h : IsMs w B mv ps C) {i : Nat} (hi : i < C.length) :
    ∃ gm c, mv = .slice (some ⟨gm, 0, none⟩) C.length c ∧ w.cell? ⟨gm, i, none⟩ = some (.pointer (some ⟨(ps.getD i (0, 0)).1, 0, none⟩)) := by
  obtain ⟨A, c, e, hl, hC⟩ := Kd.R_reads h.row
  have hl := h.len
  obtain ⟨ad, cs, hA, hcl, hK, hcell⟩ := Kd.C_get hC 0 (i : Int) (by omega) (by rw [List.length_map]; omega)
  have hcs : cs = [Value.pointer (some ⟨((ps.map Prod.fst).getD i 0), 0, none⟩)] := hK
  have h0 := hcell 0 (Value.pointer (some ⟨((ps.map Prod.fst).getD i 0), 0, none⟩)) (by rw [hcs]; rfl)
  rw [Int.toNat_natCast, show i * ptrK.sz + 0 = i by simp [ptrK, Kd.scalar]] at h0
  have hg : (ps.map Prod.fst).getD i 0 = (ps.getD i (0, 0)).1 := by
    rw [List.getD_eq_getElem?_getD, List.getD_eq_getElem?_getD, List.getElem?_map, List.getElem?_eq_getElem (by omega)]
    rfl
  rw [hg] at h0
  subst hA
  obtain ⟨inner, ho⟩ := Kd.R_own h.row
  rcases ho.2 with ⟨hv, hn⟩ | ⟨g, cap, cur, hv, _⟩
  · rw [List.length_map] at hn; omega
  · rw [hv] at e
    injection e with e1 e2 e3
    injection e1 with e1
    subst e1
    refine ⟨g, cap, by rw [hv, List.length_map, hl], ?_⟩
    have : (⟨g, 0, none⟩ : Addr).add i = ⟨g, i, none⟩ := by unfold Addr.add; split <;> simp_all
    rw [this] at h0
    exact h0
theorem Ft.R {α : Type} {d : Kd α} {e base B : Nat} {ok : Nat → Prop} {v : Value} {xs : List α} {ts : List TypeId} {w w' : World} (h : Ft B ts w w') (hR : Kd.R d e w base ok v xs) (ht : ∀ q, q ∈ e :: d.E → q ∉ ts) : Kd.R d e w' base ok v xs := by
  refine Kd.R_mono (Kd.R_move (Kd.R_bound hR) (fun k hk => ?_)) (fun _ hk => hk.1)
  obtain ⟨_, _, hlt, q, hq, cells, hc⟩ := hk
  exact h.keep k hlt (.inr ⟨cells, q, hc, ht q hq⟩)
theorem IsM.ft {B : Nat} {ts : List TypeId} {w w' : World} {bp bs : Nat} {cs : List Int} {tot : Int} (h : IsM w bp bs cs tot) (hF : Ft B ts w w') (h1 : 103 ∉ ts) (h2 : 3 ∉ ts) : IsM w' bp bs cs tot := ⟨hF.blk h.head h1, hF.blk h.row h2⟩
theorem IsMs.ft {B B' : Nat} {ts : List TypeId} {w w' : World} {mv : Value} {ps : List (Nat × Nat)} {C : List (List Int)} (h : IsMs w B mv ps C) (hF : Ft B' ts w w') (h1 : 103 ∉ ts) (h2 : 3 ∉ ts) (h3 : 87 ∉ ts) : IsMs w' B mv ps C :=
  ⟨h.len, Ft.R hF h.row (fun q hq => by
    have : q = 87 := by simpa [ptrK, Kd.scalar] using hq
    rw [this]
    exact h3), fun i hi => ⟨CW.IsM.ft (h.mod i hi).1 hF h1 h2, (h.mod i hi).2⟩, h.inj⟩
theorem ret_int {k : IntKind} {a b : Int} (h : a = b) : Ending.returned (.int k a) = .returned (.int k b) := by rw [h]
theorem getD_toNat (C : List (List Int)) {k : Int} (hk : 0 ≤ k) : ∃ i : Nat, k = (i : Int) ∧ C.getD k.toNat [] = C.getD i [] := ⟨k.toNat, by omega, rfl⟩
theorem whole_plain (C : List (List Int)) {k : Int} (h : isPlain k) : whole C k = CM.bits k := by unfold whole; rw [if_pos h]
theorem whole_out (C : List (List Int)) {k : Int} (h : ¬ isPlain k) (h2 : ¬ (0 ≤ k ∧ k < C.length)) : whole C k = 0 := by unfold whole; rw [if_neg h, if_neg h2]
theorem whole_at (C : List (List Int)) {i : Nat} (hi : i < C.length) : whole C (i : Int) = (C.getD i []).sum := by
  unfold whole
  rw [if_neg (fun h => by have := h.1; omega), if_pos ⟨by omega, by omega⟩, Int.toNat_natCast]
set_option maxHeartbeats 1000000 in
set_option maxRecDepth 100000 in
theorem whole32 (w : World) (g B : Nat) (mv : Value) (ps : List (Nat × Nat)) (C : List (List Int)) (k : Int) (h0 : -9223372036854775808 ≤ k) (h1 : k < 9223372036854775808) (hm : w.cell? ⟨g, 0, none⟩ = some mv) (hM : IsMs w B mv ps C) (hl : C.length ≤ 1000) :
    Calls Try.prog 32 #[.pointer (some ⟨g, 0, none⟩), .int .i64 k] w fun e w' => e = .returned (.int .i64 (whole C k)) ∧ w = w' := by
  cases hp : isP k with
  | true =>
    have hb := isP_iff.1 hp
    have HW := Lib.hid (whole_plain C hb)
    have HB := Lib.hid hb
    have HP := Lib.hid hp
    clear hp hb
    go_enter Try.func32, Try.ntmps32
    go_wp2_with (go_at_call 30; refine (plain30 _ _ h0 h1).mono ?_; rintro e w' ⟨n, rfl, hn, rfl⟩; rw [HP.out]; have hn2 := hn HB.out; clear hn; subst hn2)
    go_ret
    exact ⟨ret_int HW.out.symm, rfl⟩
  | false =>
    have hb : ¬ isPlain k := fun h => by rw [isP_iff.2 h] at hp; cases hp
    have HP := Lib.hid hp
    clear hp
    by_cases hk : 0 ≤ k ∧ k < C.length
    · obtain ⟨i, rfl⟩ := Int.eq_ofNat_of_zero_le hk.1
      have hi : i < C.length := by omega
      obtain ⟨gm, c, rfl, hc⟩ := hM.at_ hi
      have hmod := (hM.mod i hi).1
      have HW := Lib.hid (whole_at C hi)
      generalize (ps.getD i (0, 0)).1 = bp at *
      generalize (ps.getD i (0, 0)).2 = bs at *
      generalize C.getD i [] = ci at *
      have d1 : decide ((i : Int) < 0) = false := decide_eq_false (by omega)
      have d2 : decide ((C.length : Int) ≤ (i : Int)) = false := decide_eq_false (by omega)
      have d3 : decide (C.length ≤ i) = false := decide_eq_false (by omega)
      have d4 : decide (i < C.length) = true := decide_eq_true hi
      clear hb hk hM
      go_enter Try.func32, Try.ntmps32
      go_wp2_with (first | (go_at_call 30; refine (plain30 _ _ h0 h1).mono ?_; rintro e w' ⟨n, rfl, hn, rfl⟩; rw [HP.out]; clear hn) | (go_at_call 46; refine (total_calls _ _ _ _ _ hmod).mono ?_; rintro e w' ⟨rfl, rfl⟩))
      go_ret
      exact ⟨ret_int HW.out.symm, rfl⟩
    · have HW := Lib.hid (whole_out C hb hk)
      obtain ⟨A, c, rfl⟩ := hM.slice
      clear hb hM
      by_cases hn : k < 0
      · have d1 : decide (k < 0) = true := decide_eq_true hn
        go_enter Try.func32, Try.ntmps32
        go_wp2_with (go_at_call 30; refine (plain30 _ _ h0 h1).mono ?_; rintro e w' ⟨n, rfl, hn, rfl⟩; rw [HP.out]; clear hn)
        go_ret
        exact ⟨ret_int HW.out.symm, rfl⟩
      · have d1 : decide (k < 0) = false := decide_eq_false hn
        have d2 : decide ((C.length : Int) ≤ k) = true := decide_eq_true (by omega)
        go_enter Try.func32, Try.ntmps32
        go_wp2_with (go_at_call 30; refine (plain30 _ _ h0 h1).mono ?_; rintro e w' ⟨n, rfl, hn, rfl⟩; rw [HP.out]; clear hn)
        go_ret
        exact ⟨ret_int HW.out.symm, rfl⟩
/-- A share, or that it is none. -/
def SharePost (C : List (List Int)) (k s : Int) (w : World) (e : Ending) (w' : World) : Prop :=
  ∃ a n, e = .returned (.tuple #[.int .i64 a, .int .i64 n, .bool (share C k s).isSome]) ∧ (∀ p, share C k s = some p → a = p.1 ∧ n = p.2) ∧ Below w.heap.size w w'
theorem SharePost.no {C : List (List Int)} {k s a n : Int} {w w' : World} (h : share C k s = none) (hb : Below w.heap.size w w') : SharePost C k s w (.returned (.tuple #[.int .i64 a, .int .i64 n, .bool false])) w' :=
  ⟨a, n, by rw [h]; rfl, fun p hp => (by rw [h] at hp; cases hp), hb⟩
theorem SharePost.yes {C : List (List Int)} {k s a n : Int} {w w' : World} (h : share C k s = some (a, n)) (hb : Below w.heap.size w w') : SharePost C k s w (.returned (.tuple #[.int .i64 a, .int .i64 n, .bool true])) w' :=
  ⟨a, n, by rw [h]; rfl, fun p hp => (by rw [h] at hp; cases hp; exact ⟨rfl, rfl⟩), hb⟩
theorem share_plain {C : List (List Int)} {k s : Int} (h : isPlain k) : share C k s = if 0 ≤ s ∧ s < CM.bits k then some (s, 1) else none := by unfold share; rw [if_pos h]
theorem share_out {C : List (List Int)} {k s : Int} (h : ¬ isPlain k) (h2 : ¬ (0 ≤ k ∧ k < C.length)) : share C k s = none := by unfold share; rw [if_neg h, if_neg h2]
theorem share_at {C : List (List Int)} {i : Nat} {s : Int} (hi : i < C.length) : share C (i : Int) s = if 0 ≤ s ∧ s < (C.getD i []).length then some (((C.getD i []).take s.toNat).sum, (C.getD i []).getD s.toNat 0) else none := by
  unfold share
  rw [if_neg (fun h => by have := h.1; omega), if_pos ⟨by omega, by omega⟩, Int.toNat_natCast]
set_option maxHeartbeats 1000000 in
set_option maxRecDepth 100000 in
theorem share34_plain (w : World) (g : Nat) (C : List (List Int)) (k s : Int) (h0 : -9223372036854775808 ≤ k) (h1 : k < 9223372036854775808) (hp : isP k = true) :
    Calls Try.prog 34 #[.pointer (some ⟨g, 0, none⟩), .agg #[.int .i64 k, .int .i64 s]] w (SharePost C k s w) := by
  have hb := isP_iff.1 hp
  have hsh := share_plain (C := C) (s := s) hb
  have HSH := Lib.hid hsh
  have HB := Lib.hid hb
  have HP := Lib.hid hp
  clear hp hb hsh
  have hB := (Below.refl w.heap.size w).alloc (Nat.le_refl _) (.cells #[.int .i64 k, .int .i64 s] 41 (0, 0))
  by_cases hs : 0 ≤ s
  · have d0 : decide (0 ≤ s) = true := decide_eq_true hs
    go_enter Try.func34, Try.ntmps34
    go_wp2_with (go_at_call 30; refine (plain30 _ _ h0 h1).mono ?_; rintro e w' ⟨n, rfl, hn, rfl⟩; rw [HP.out]; have hn2 := hn HB.out; clear hn; subst hn2)
    go_quiet (fail)
    go_wp2
    go_ret3
    have hsh := HSH.out
    by_cases h2 : s < CM.bits k
    · rw [if_pos ⟨hs, h2⟩] at hsh
      rw [decide_eq_true h2]
      exact SharePost.yes hsh (below_dN hB _)
    · rw [if_neg (fun h => h2 h.2)] at hsh
      rw [decide_eq_false h2]
      exact SharePost.no hsh (below_dN hB _)
  · have d0 : decide (0 ≤ s) = false := decide_eq_false hs
    go_enter Try.func34, Try.ntmps34
    go_wp2_with (go_at_call 30; refine (plain30 _ _ h0 h1).mono ?_; rintro e w' ⟨n, rfl, hn, rfl⟩; rw [HP.out]; have hn2 := hn HB.out; clear hn; subst hn2)
    go_quiet (fail)
    go_wp2
    go_ret3
    have hsh := HSH.out
    rw [if_neg (fun h => by have := h.1; omega)] at hsh
    exact SharePost.no hsh (below_dN hB _)
set_option maxHeartbeats 1000000 in
set_option maxRecDepth 100000 in
theorem share34_out (w : World) (g B : Nat) (mv : Value) (ps : List (Nat × Nat)) (C : List (List Int)) (k s : Int) (h0 : -9223372036854775808 ≤ k) (h1 : k < 9223372036854775808) (hm : w.cell? ⟨g, 0, none⟩ = some mv) (hM : IsMs w B mv ps C) (hl : C.length ≤ 1000) (hp : isP k = false) (hk : ¬ (0 ≤ k ∧ k < C.length)) :
    Calls Try.prog 34 #[.pointer (some ⟨g, 0, none⟩), .agg #[.int .i64 k, .int .i64 s]] w (SharePost C k s w) := by
  have hb : ¬ isPlain k := fun h => by rw [isP_iff.2 h] at hp; cases hp
  have HSH := Lib.hid (share_out (s := s) hb hk)
  have HP := Lib.hid hp
  obtain ⟨A, c, rfl⟩ := hM.slice
  have hlt := World.block_lt_of_cell? w _ hm
  clear hp hb hM
  have hB := (Below.refl w.heap.size w).alloc (Nat.le_refl _) (.cells #[.int .i64 k, .int .i64 s] 41 (0, 0))
  by_cases hn : k < 0
  · have d1 : decide (k < 0) = true := decide_eq_true hn
    go_enter Try.func34, Try.ntmps34
    go_wp2_with (go_at_call 30; refine (plain30 _ _ h0 h1).mono ?_; rintro e w' ⟨n, rfl, hn, rfl⟩; rw [HP.out]; clear hn)
    go_quiet (fail)
    go_wp2
    go_ret3
    exact SharePost.no HSH.out (below_dN hB _)
  · have d1 : decide (k < 0) = false := decide_eq_false hn
    have d2 : decide ((C.length : Int) ≤ k) = true := decide_eq_true (by omega)
    clear hk
    go_enter Try.func34, Try.ntmps34
    go_wp2_with (go_at_call 30; refine (plain30 _ _ h0 h1).mono ?_; rintro e w' ⟨n, rfl, hn, rfl⟩; rw [HP.out]; clear hn)
    go_quiet (fail)
    go_wp2
    go_ret3
    exact SharePost.no HSH.out (below_dN hB _)
set_option maxHeartbeats 1000000 in
set_option maxRecDepth 100000 in
theorem share34_at (w : World) (g B : Nat) (mv : Value) (ps : List (Nat × Nat)) (C : List (List Int)) (i : Nat) (s : Int) (hm : w.cell? ⟨g, 0, none⟩ = some mv) (hM : IsMs w B mv ps C) (hMs : Mods C) (hl : C.length ≤ 1000) (hi : i < C.length) :
    Calls Try.prog 34 #[.pointer (some ⟨g, 0, none⟩), .agg #[.int .i64 (i : Int), .int .i64 s]] w (SharePost C (i : Int) s w) := by
  have hp : isP (i : Int) = false := Bool.eq_false_iff.2 fun h => by have := (isP_iff.1 h).1; omega
  have HP := Lib.hid hp
  have HSH := Lib.hid (share_at (s := s) hi)
  obtain ⟨gm, c, rfl, hc⟩ := hM.at_ hi
  have hmod := (hM.mod i hi).1
  have hinv := (hMs.at_ hi).1.inv
  have hlt := World.block_lt_of_cell? w _ hm
  have hlt2 := World.block_lt_of_cell? w _ hc
  generalize (ps.getD i (0, 0)).1 = bp at *
  generalize (ps.getD i (0, 0)).2 = bs at *
  generalize C.getD i [] = ci at *
  have hcl := hinv.2.2
  have d1 : decide ((i : Int) < 0) = false := decide_eq_false (by omega)
  have d2 : decide ((C.length : Int) ≤ (i : Int)) = false := decide_eq_false (by omega)
  have d3 : decide (C.length ≤ i) = false := decide_eq_false (by omega)
  have d4 : decide (i < C.length) = true := decide_eq_true hi
  have d5 : 0 ≤ (i : Int) := by omega
  have d6 : (i : Int) < (C.length : Int) := by omega
  have hB := (Below.refl w.heap.size w).alloc (Nat.le_refl _) (.cells #[.int .i64 i, .int .i64 s] 41 (0, 0))
  have hm2 := hmod.head.alloc (.cells #[.int .i64 i, .int .i64 s] 41 (0, 0))
  have hmodB : ∀ n, IsM ((w.alloc (.cells #[.int .i64 i, .int .i64 s] 41 (0, 0))).drewN n) bp bs ci ci.sum := fun n => ⟨hmod.head.alloc _, hmod.row.alloc _⟩
  have HMB := Lib.hid hmodB
  clear hp hM hm2 hmodB
  by_cases hs : 0 ≤ s ∧ s < ci.length
  · obtain ⟨t, rfl⟩ := Int.eq_ofNat_of_zero_le hs.1
    have ht : t < ci.length := by omega
    go_enter Try.func34, Try.ntmps34
    go_wp2_with (go_at_call 30; refine (plain30 _ _ (by omega) (by omega)).mono ?_; rintro e w' ⟨n, rfl, hn, rfl⟩; rw [HP.out]; clear hn)
    go_quiet (fail)
    go_wp2_with fail
    go_quiet ((go_at_call 48; exact quiet_more (share_ok _ bp bs ci ci.sum (HMB.out _) hinv t ht)))
    go_wp2
    go_ret3
    have hsh := HSH.out
    rw [if_pos hs, Int.toNat_natCast, List.getD_eq_getElem?_getD, List.getElem?_eq_getElem ht, Option.getD_some] at hsh
    exact SharePost.yes hsh (below_dN hB _)
  · have hs' : s < 0 ∨ (ci.length : Int) ≤ s := by omega
    go_enter Try.func34, Try.ntmps34
    go_wp2_with (go_at_call 30; refine (plain30 _ _ (by omega) (by omega)).mono ?_; rintro e w' ⟨n, rfl, hn, rfl⟩; rw [HP.out]; clear hn)
    go_quiet (fail)
    go_wp2_with fail
    go_quiet ((go_at_call 48; exact quiet_more (share_bad _ bp bs ci ci.sum (HMB.out _) s hs')))
    go_wp2
    go_ret3
    have hsh := HSH.out
    rw [if_neg (by omega)] at hsh
    exact SharePost.no hsh (below_dN hB _)
theorem share34 (w : World) (g B : Nat) (mv : Value) (ps : List (Nat × Nat)) (C : List (List Int)) (k s : Int) (h0 : -9223372036854775808 ≤ k) (h1 : k < 9223372036854775808) (hm : w.cell? ⟨g, 0, none⟩ = some mv) (hM : IsMs w B mv ps C) (hMs : Mods C) (hl : C.length ≤ 1000) :
    Calls Try.prog 34 #[.pointer (some ⟨g, 0, none⟩), .agg #[.int .i64 k, .int .i64 s]] w (SharePost C k s w) := by
  cases hp : isP k with
  | true => exact share34_plain w g C k s h0 h1 hp
  | false =>
    by_cases hk : 0 ≤ k ∧ k < C.length
    · obtain ⟨i, rfl⟩ := Int.eq_ofNat_of_zero_le hk.1
      exact share34_at w g B mv ps C i s hm hM hMs hl (by omega)
    · exact share34_out w g B mv ps C k s h0 h1 hm hM hl hp hk
/-- A symbol is counted. -/
theorem IsMs.counted {w w' : World} {B : Nat} {mv : Value} {ps : List (Nat × Nat)} {C : List (List Int)} (h : IsMs w B mv ps C) {i : Nat} (hi : i < C.length) {cs : List Int} (hm : IsM w' (ps.getD i (0, 0)).1 (ps.getD i (0, 0)).2 cs cs.sum) (ho : Only w w' (ps.getD i (0, 0)).1 (ps.getD i (0, 0)).2) :
    IsMs w' B mv ps (C.set i cs) ∧ Ft B [103, 3] w w' := by
  obtain ⟨h0, hb1, hb2⟩ := h.mod i hi
  have hF : Ft B [103, 3] w w' := (Ft.refl B _ w).only ho h0.head h0.row (by decide) (by decide) hb1 hb2
  refine ⟨⟨by rw [List.length_set]; exact h.len, Ft.R hF h.row (fun q hq => by
    have : q = 87 := by simpa [ptrK, Kd.scalar] using hq
    rw [this]
    decide), fun j hj => ?_, fun j k hj hk => h.inj j k (by simpa using hj) (by simpa using hk)⟩, hF⟩
  rw [List.length_set] at hj
  obtain ⟨hj0, hj1, hj2⟩ := h.mod j hj
  refine ⟨?_, hj1, hj2⟩
  by_cases e : i = j
  · subst e
    have : (C.set i cs).getD i [] = cs := by rw [List.getD_eq_getElem?_getD, List.getElem?_set, if_pos rfl, if_pos hi]; rfl
    rw [this]
    exact hm
  · have : (C.set i cs).getD j [] = C.getD j [] := by rw [List.getD_eq_getElem?_getD, List.getElem?_set, if_neg e, ← List.getD_eq_getElem?_getD]
    rw [this]
    obtain ⟨n1, n2⟩ := h.inj j i hj hi (Ne.symm e)
    exact ⟨hj0.head.only ho n1 (hj0.head.ne_ h0.row (by decide)), hj0.row.only ho (hj0.row.ne_ h0.head (by decide)) n2⟩
theorem count_one (w : World) (bp bs : Nat) (cs : List Int) (n : Nat) (h : IsM w bp bs cs cs.sum) (hok : Ok n cs) (x : Int) (g : Nat) (hg : g < w.heap.size) (h1 : g ≠ bp) (h2 : g ≠ bs) (hc : w.cell? ⟨g, 0, none⟩ = some (.int .i64 x)) (h0 : 0 ≤ x) (hn : x < n) :
    Calls Try.prog 51 #[.pointer (some ⟨bp, 0, none⟩), .slice (some ⟨g, 0, none⟩) 1 1] w fun e w' => e = .returned (.int .i64 0) ∧ IsM w' bp bs (cntI cs x) (cntI cs x).sum ∧ Only w w' bp bs :=
  count_ok w bp bs cs n h hok (some ⟨g, 0, none⟩) [x] 1 (by simp [maxLen]) (fun i hi => by
    obtain rfl : i = 0 := by simpa using hi
    exact ⟨_, rfl, hg, h1, h2, hc⟩) (fun y hy => by
    rw [List.mem_singleton] at hy
    subst hy
    exact ⟨h0, hn⟩)
set_option maxHeartbeats 2000000 in
set_option maxRecDepth 100000 in
theorem count41_at (w : World) (g B : Nat) (mv : Value) (ps : List (Nat × Nat)) (C : List (List Int)) (i : Nat) (s : Int) (hm : w.cell? ⟨g, 0, none⟩ = some mv) (hM : IsMs w B mv ps C) (hMs : Mods C) (hl : C.length ≤ 1000) (hi : i < C.length) (hs0 : 0 ≤ s) (hs1 : s < (C.getD i []).length) :
    Calls Try.prog 41 #[.pointer (some ⟨g, 0, none⟩), .agg #[.int .i64 (i : Int), .int .i64 s]] w fun e w' => e = .returned (.tuple #[]) ∧ IsMs w' B mv ps (cntC C (i : Int) s) ∧ Ft B [103, 3] w w' := by
  obtain ⟨gm, c, rfl, hc⟩ := hM.at_ hi
  have hmod := (hM.mod i hi).1
  have hok := (hMs.at_ hi).1
  have hlt := World.block_lt_of_cell? w _ hm
  have hlt2 := World.block_lt_of_cell? w _ hc
  have hB : Below w.heap.size w (w.alloc (.cells #[.int .i64 i, .int .i64 s] 41 (0, 0))) := (Below.refl w.heap.size w).alloc (Nat.le_refl _) _
  have q0 : (w.alloc (.cells #[.int .i64 i, .int .i64 s] 41 (0, 0))).drew.cell? ⟨g, 0, none⟩ = some (.slice (some ⟨gm, 0, none⟩) C.length c) := (hB.cell (p := ⟨g, 0, none⟩) hlt).trans hm
  have q3 : (w.alloc (.cells #[.int .i64 i, .int .i64 s] 41 (0, 0))).drew.cell? ⟨gm, i, none⟩ = some (.pointer (some ⟨(ps.getD i (0, 0)).1, 0, none⟩)) := (hB.cell (p := ⟨gm, i, none⟩) hlt2).trans hc
  have q1 : (w.alloc (.cells #[.int .i64 i, .int .i64 s] 41 (0, 0))).drew.cell? ⟨w.heap.size, 0, none⟩ = some (.int .i64 i) := (Blk.here w 41 #[.int .i64 i, .int .i64 s]).cell 0
  have q2 : (w.alloc (.cells #[.int .i64 i, .int .i64 s] 41 (0, 0))).drew.cell? ⟨w.heap.size, 1, none⟩ = some (.int .i64 s) := (Blk.here w 41 #[.int .i64 i, .int .i64 s]).cell 1
  have hB2 : Below w.heap.size w (((w.alloc (.cells #[.int .i64 i, .int .i64 s] 41 (0, 0))).alloc (.cells #[.int .i64 s] 3)).drew) := (hB.alloc (by simp) _).drew
  have r0 : (((w.alloc (.cells #[.int .i64 i, .int .i64 s] 41 (0, 0))).alloc (.cells #[.int .i64 s] 3)).drew).cell? ⟨g, 0, none⟩ = some (.slice (some ⟨gm, 0, none⟩) C.length c) := (hB2.cell (p := ⟨g, 0, none⟩) hlt).trans hm
  have r3 : (((w.alloc (.cells #[.int .i64 i, .int .i64 s] 41 (0, 0))).alloc (.cells #[.int .i64 s] 3)).drew).cell? ⟨gm, i, none⟩ = some (.pointer (some ⟨(ps.getD i (0, 0)).1, 0, none⟩)) := (hB2.cell (p := ⟨gm, i, none⟩) hlt2).trans hc
  have r1 : (((w.alloc (.cells #[.int .i64 i, .int .i64 s] 41 (0, 0))).alloc (.cells #[.int .i64 s] 3)).drew).cell? ⟨w.heap.size, 0, none⟩ = some (.int .i64 i) := ((Blk.here w 41 #[.int .i64 i, .int .i64 s]).alloc _).cell 0
  have r2 : (((w.alloc (.cells #[.int .i64 i, .int .i64 s] 41 (0, 0))).alloc (.cells #[.int .i64 s] 3)).drew).cell? ⟨w.heap.size, 1, none⟩ = some (.int .i64 s) := ((Blk.here w 41 #[.int .i64 i, .int .i64 s]).alloc _).cell 1
  have hbp := hmod.head.lt
  have hbs := hmod.row.lt
  have hMd : ∀ o, IsM (((w.alloc (.cells #[.int .i64 i, .int .i64 s] 41 (0, 0))).alloc o).drew) (ps.getD i (0, 0)).1 (ps.getD i (0, 0)).2 (C.getD i []) (C.getD i []).sum := fun o => ⟨(hmod.head.alloc _).alloc o, (hmod.row.alloc _).alloc o⟩
  have hMs' : ∀ o, IsMs (((w.alloc (.cells #[.int .i64 i, .int .i64 s] 41 (0, 0))).alloc o).drew) B (.slice (some ⟨gm, 0, none⟩) C.length c) ps C := fun o => CW.IsMs.ft hM ((((Ft.refl B [] w).alloc _).alloc o).drew) (by decide) (by decide) (by decide)
  have hFa : ∀ o, Ft B [103, 3] w (((w.alloc (.cells #[.int .i64 i, .int .i64 s] 41 (0, 0))).alloc o).drew) := fun o => (((Ft.refl B _ w).alloc _).alloc o).drew
  have HMS := Lib.hid hMs'
  have HFA := Lib.hid hFa
  have HOK := Lib.hid hok
  have HMD := Lib.hid hMd
  have HS1 := Lib.hid hs1
  have HC := Lib.hid (show cntC C (i : Int) s = C.set i (cntI (C.getD i []) s) by unfold cntC; rw [if_pos (by omega), Int.toNat_natCast])
  have HI := Lib.hid hi
  have hcell : (((w.alloc (.cells #[.int .i64 i, .int .i64 s] 41 (0, 0))).alloc (.cells #[.int .i64 s] 3)).drew).cell? ⟨(w.alloc (.cells #[.int .i64 i, .int .i64 s] 41 (0, 0))).heap.size, 0, none⟩ = some (.int .i64 s) :=
    (Blk.here (w.alloc (.cells #[.int .i64 i, .int .i64 s] 41 (0, 0))) 3 #[.int .i64 s]).cell 0
  have hle : w.heap.size ≤ (w.alloc (.cells #[.int .i64 i, .int .i64 s] 41 (0, 0))).heap.size := by simp
  have HCELL := Lib.hid hcell
  have d0 : decide (0 ≤ (i : Int)) = true := decide_eq_true (by omega)
  have d4 : decide (i < C.length) = true := decide_eq_true hi
  have d5 : 0 ≤ (i : Int) := by omega
  have d6 : (i : Int) < (C.length : Int) := by omega
  generalize hp1 : (ps.getD i (0, 0)).1 = bp at *
  generalize hp2 : (ps.getD i (0, 0)).2 = bs at *
  generalize hci : C.getD i [] = ci at *
  have HP1 := Lib.hid hp1
  have HP2 := Lib.hid hp2
  have HCI := Lib.hid hci
  clear hM hmod hok hMs' hFa hMd hp1 hp2 hci hs1 hB hB2 hMs hcell
  go_enter Try.func41, Try.ntmps41
  go_wp2_with fail
  generalize w.alloc (.cells #[.int .i64 i, .int .i64 s] 41 (0, 0)) = w1 at *
  go_region_with (go_at_call 51; (with_reducible refine (count_one _ bp bs ci ci.length (HMD.out _) HOK.out s w1.heap.size (by simp) (by omega) (by omega) HCELL.out hs0 HS1.out).mono ?_); rintro e w' ⟨rfl, hm', ho'⟩)
  all_goals
    go_wp2_with fail
    go_end0
    have h1 := IsMs.counted (HMS.out _) HI.out (cs := cntI ci s) (by rw [HP1.out, HP2.out]; exact hm') (by rw [HP1.out, HP2.out]; exact ho')
    rw [HC.out]
    exact ⟨rfl, h1.1, (HFA.out _).trans h1.2⟩
end Go.Proofs.Ythegimfokcdehaa.CW
