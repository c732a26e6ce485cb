/- coder.Decode walked: the reader; then all of it. -/
import Derived.Test.YthegimfokcdehaaCoderEnc
import Derived.Test.YthegimfokcdehaaCoderMathAll
namespace Go.Proofs.Ythegimfokcdehaa.CW
open Go Go.RowKit Go.Proofs.Ythegimfokcdehaa.Mem Go.Proofs.Ythegimfokcdehaa.CM Go.Proofs.Ythegimfokcdehaa.MW Go.Proofs.Ythegimfokcdehaa.PCod Go.Proofs.YthegimfokcdehaaW.PrintWords Go.Proofs.YthegimfokcdehaaW.PrintLast Go.Proofs.YthegimfokcdehaaW.PrintMore
set_option linter.unusedVariables false
set_option linter.unusedSimpArgs false
theorem or8 {x y : Int} (h0 : 0 ≤ x) (h1 : x < 4294967296) (hx : x % 256 = 0) (hy0 : 0 ≤ y) (hy1 : y < 256) : bits .or .u32 x y = x + y :=
  bits_join .u32 32 (by decide) (fun n h0 h1 => by simp [IntKind.wrap, IntKind.bits, IntKind.signed]; omega) 8 x y h0 hx h1 hy0 hy1 (by omega)
theorem next_post {w : World} {n B g : Nat} {v : Value} {at_ : Nat} {cd y : Int} (hB : Blk w g 73 #[v, .int .i64 at_, .int .u32 cd]) (hBg : B ≤ g) (hy0 : 0 ≤ y) (hy1 : y < 256) :
    Blk (((w.drewN n).setCell ⟨g, 2, none⟩ (.int .u32 (bits .or .u32 (cd * 256 % 4294967296) y))).setCell ⟨g, 1, none⟩ (.int .i64 (at_ + 1))) g 73 #[v, .int .i64 (at_ + 1 : Nat), .int .u32 ((cd * 256) % 4294967296 + y)] ∧
      Ft B [73] w (((w.drewN n).setCell ⟨g, 2, none⟩ (.int .u32 (bits .or .u32 (cd * 256 % 4294967296) y))).setCell ⟨g, 1, none⟩ (.int .i64 (at_ + 1))) := by
  rw [or8 (by omega) (by omega) (by omega) hy0 hy1]
  have h0 : Blk (w.drewN n) g 73 #[v, .int .i64 at_, .int .u32 cd] := hB.drewN n
  have h1 := h0.set_ 2 (.int .u32 ((cd * 256) % 4294967296 + y))
  have h2 := h1.set_ 1 (.int .i64 (at_ + 1))
  exact ⟨h2, (((Ft.refl B [73] w).drewN n).setCell (p := ⟨g, 2, none⟩) h0 (by decide) hBg _).setCell (p := ⟨g, 1, none⟩) h1 (by decide) hBg _⟩
set_option maxRecDepth 100000 in
theorem next31 (w : World) (B g : Nat) (A : Option Addr) (b : List Int) (c : Nat) (at_ : Nat) (cd : Int) (hB : Blk w g 73 #[.slice A b.length c, .int .i64 at_, .int .u32 cd]) (hBg : B ≤ g) (hr : Kd.C (Kd.int .u8) w A b.length b) (hd : Dig b) (hl : b.length ≤ 100000) (hat : at_ ≤ 100000) (h0 : 0 ≤ cd) (h1 : cd < 4294967296) :
    Calls Try.prog 31 #[.pointer (some ⟨g, 0, none⟩)] w fun e w' => e = .returned (.tuple #[]) ∧ Blk w' g 73 #[.slice A b.length c, .int .i64 (at_ + 1 : Nat), .int .u32 ((cd * 256) % 4294967296 + byteAt b at_)] ∧ Ft B [73] w w' := by
  have x0 : w.cell? ⟨g, 0, none⟩ = some (.slice A b.length c) := hB.cell 0
  have x1 : w.cell? ⟨g, 1, none⟩ = some (.int .i64 at_) := hB.cell 1
  have x2 : w.cell? ⟨g, 2, none⟩ = some (.int .u32 cd) := hB.cell 2
  have f1 := hB.frozen 1
  have f2 := hB.frozen 2
  by_cases hlt : at_ < b.length
  · obtain ⟨ad, rfl, hc⟩ := Kd.at_int hr (at_ : Int) (by omega) (by omega)
    rw [Int.toNat_natCast] at hc
    have hrd : rd b (at_ : Int) = byteAt b at_ := by unfold rd byteAt; rw [Int.toNat_natCast]
    have hby : 0 ≤ byteAt b at_ ∧ byteAt b at_ < 256 := by
      have : byteAt b at_ = b[at_] := by unfold byteAt; rw [List.getD_eq_getElem?_getD, List.getElem?_eq_getElem hlt]; rfl
      rw [this]
      exact hd _ (List.getElem_mem hlt)
    rw [hrd] at hc
    generalize byteAt b at_ = y at *
    have d1 : decide (at_ < b.length) = true := decide_eq_true hlt
    have d2 : 0 ≤ (at_ : Int) := by omega
    have d3 : (at_ : Int) < (b.length : Int) := by omega
    clear hrd
    go_enter Try.func31, Try.ntmps31
    go_wp2
    go_quiet (fail)
    go_wp2_with fail
    go_quiet (fail)
    go_wp2_with fail
    go_end0
    exact ⟨rfl, next_post hB hBg hby.1 hby.2⟩
  · have d1 : decide (at_ < b.length) = false := decide_eq_false hlt
    have hby : byteAt b at_ = 0 := by unfold byteAt; rw [List.getD_eq_getElem?_getD, List.getElem?_eq_none (by omega)]; rfl
    rw [hby]
    clear hby
    go_enter Try.func31, Try.ntmps31
    go_wp2
    go_quiet (fail)
    go_wp2_with fail
    go_end0
    exact ⟨rfl, next_post hB hBg (by omega) (by omega)⟩
def unpair (x : Int × Int) : S41 := ⟨x.1, x.2⟩
def kOK (n : Nat) (k : Int) : Bool := isP k || (decide (0 ≤ k) && decide (k < n))
def decS (sizes ms b : List Int) : List S41 × Int :=
  if Sizes sizes ∧ ms.all (kOK sizes.length) = true then (match CM.decode (gP b) (st0 (freshC sizes)) ms b with | none => ([], 11) | some xs => (xs.map unpair, 0)) else ([], 2)
theorem read_snoc (g : St → Int → Option Int) : ∀ (ks : List Int) (t : St) (k : Int), CM.read g t (ks ++ [k]) = (CM.read g t ks).bind fun p => (g p.2 k).bind fun s => (CM.step p.2 (k, s)).map fun v => (p.1 ++ [(k, s)], v)
  | [], t, k => by
    rw [List.nil_append, CM.read, CM.read, Option.bind_some]
    cases h1 : g t k with
    | none => rfl
    | some s =>
      rw [Option.bind_some, Option.bind_some]
      cases h2 : CM.step t (k, s) with
      | none => rfl
      | some u => rfl
  | y :: ys, t, k => by
    rw [List.cons_append, CM.read, CM.read]
    cases h1 : g t y with
    | none => rfl
    | some s =>
      rw [Option.bind_some, Option.bind_some]
      cases h2 : CM.step t (y, s) with
      | none => rfl
      | some u =>
        rw [Option.bind_some, Option.bind_some, read_snoc g ys u k]
        cases h3 : CM.read g u ys with
        | none => rfl
        | some p =>
          rw [Option.map_some, Option.bind_some, Option.bind_some]
          cases h4 : g p.2 k with
          | none => rfl
          | some s2 =>
            rw [Option.bind_some, Option.bind_some]
            cases h5 : CM.step p.2 (k, s2) with
            | none => rfl
            | some v => rfl
theorem read_none_append (g : St → Int → Option Int) : ∀ (ks ls : List Int) (t : St), CM.read g t ks = none → CM.read g t (ks ++ ls) = none
  | [], ls, t, h => by rw [CM.read] at h; cases h
  | y :: ys, ls, t, h => by
    rw [List.cons_append, CM.read]
    rw [CM.read] at h
    cases h1 : g t y with
    | none => rfl
    | some s =>
      rw [h1, Option.bind_some] at h
      rw [Option.bind_some]
      cases h2 : CM.step t (y, s) with
      | none => rfl
      | some u =>
        rw [h2, Option.bind_some] at h
        rw [Option.bind_some, read_none_append g ys ls u]
        · rfl
        · cases h3 : CM.read g u ys with
          | none => rfl
          | some p => rw [h3] at h; cases h
def DecInv (B g rb : Nat) (A2 : Option Addr) (b : List Int) (c2 : Nat) (mv : Value) (ps : List (Nat × Nat)) (t0 : St) (ms : List Int) (w : World) (v16 : Value) (wr : World) : Prop :=
  ∃ t ov o c h l xs, CM.read (gP b) t0 ms = some (xs, t) ∧ IsE wr g mv t.R ov o c h l ∧ IsMs wr B mv ps t.C ∧ Pr t o c h l ∧ Blk wr rb 73 #[.slice A2 b.length c2, .int .i64 t.L, .int .u32 (code b t.V t.L)] ∧ Kd.R k41 41 wr B (fun _ => True) v16 (xs.map unpair) ∧ Below B w wr
theorem kOK_whole {C : List (List Int)} (hC : Mods C) {n : Nat} (hn : C.length = n) {k : Int} (h : kOK n k = true) : 0 < whole C k ∧ whole C k ≤ 65536 := by
  unfold kOK at h
  unfold whole
  by_cases hp : isPlain k
  · rw [if_pos hp]
    have := bits_bound hp.1 hp.2
    omega
  · have hp' : isP k = false := Bool.eq_false_iff.2 fun e => hp (isP_iff.1 e)
    rw [hp', Bool.false_or, Bool.and_eq_true, decide_eq_true_iff, decide_eq_true_iff] at h
    rw [if_neg hp, if_pos ⟨h.1, by omega⟩]
    obtain ⟨ho, h1⟩ := hC.at_ (k := k.toNat) (by omega)
    have := sum_ge_len _ ho.1
    have := ho.2.1
    omega
theorem equal_l0 (l b : List Int) (hl : l.length = b.length) (hb : l.length ≤ 1000000) : ∀ (d i : Nat), l.length - i = d → i ≤ l.length → Ev (fun k => slices_Equal_byte_byte.l0 k l b (l.length : Int) (i : Int)) (decide (l.drop i = b.drop i)) := by
  intro d
  induction d with
  | zero =>
    intro i hd hi
    refine Ev.step (f := fun _ => some (decide (l.drop i = b.drop i))) (fun k => ?_) (Ev.now _)
    simp only [slices_Equal_byte_byte.l0]
    rw [if_neg (by omega), List.drop_of_length_le (by omega), List.drop_of_length_le (by omega)]
    simp
  | succ d ih =>
    intro i hd hi
    have h1 : rd l (i : Int) = l[i]'(by omega) := by unfold rd; rw [Int.toNat_natCast, List.getD_eq_getElem?_getD, List.getElem?_eq_getElem (by omega)]; rfl
    have h2 : rd b (i : Int) = b[i]'(by omega) := by unfold rd; rw [Int.toNat_natCast, List.getD_eq_getElem?_getD, List.getElem?_eq_getElem (by omega)]; rfl
    have hd1 : l.drop i = l[i]'(by omega) :: l.drop (i + 1) := List.drop_eq_getElem_cons (by omega)
    have hd2 : b.drop i = b[i]'(by omega) :: b.drop (i + 1) := List.drop_eq_getElem_cons (by omega)
    have hw : wrap64 ((i : Int) + 1) = ((i + 1 : Nat) : Int) := by unfold wrap64; omega
    by_cases he : l[i]'(by omega) = b[i]'(by omega)
    · have e : decide (l.drop i = b.drop i) = decide (l.drop (i + 1) = b.drop (i + 1)) := by rw [hd1, hd2, he]; exact decide_eq_decide.2 ⟨fun h => (List.cons.inj h).2, fun h => by rw [h]⟩
      rw [e]
      refine Ev.step (fun k => ?_) (ih (i + 1) (by omega) (by omega))
      simp only [slices_Equal_byte_byte.l0]
      rw [if_pos (by omega), if_pos (by omega), if_pos (by omega), if_pos (by omega), h1, h2, if_pos he, hw]
    · have e : decide (l.drop i = b.drop i) = false := by rw [hd1, hd2]; exact decide_eq_false fun h => he (List.cons.inj h).1
      rw [e]
      refine Ev.step (f := fun _ => some false) (fun k => ?_) (Ev.now _)
      simp only [slices_Equal_byte_byte.l0]
      rw [if_pos (by omega), if_pos (by omega), if_pos (by omega), if_pos (by omega), h1, h2, if_neg he]
theorem equal_ev (l b : List Int) (hb : l.length ≤ 1000000) : ∃ k, slices_Equal_byte_byte.f k l b = some (decide (l = b)) := by
  by_cases hl : l.length = b.length
  · obtain ⟨k, hk⟩ := (equal_l0 l b hl hb _ 0 rfl (by omega)).rounds
    refine ⟨k, ?_⟩
    unfold slices_Equal_byte_byte.f
    rw [if_pos (by omega)]
    simpa using hk
  · refine ⟨0, ?_⟩
    unfold slices_Equal_byte_byte.f
    rw [if_neg (by omega), decide_eq_false (fun h => hl (by rw [h]))]
theorem R41_ft {B base : Nat} {ok : Nat → Prop} {v : Value} {xs : List S41} {ts : List TypeId} {w w' : World} (h : Ft B ts w w') (hR : Kd.R k41 41 w base ok v xs) (ht : 41 ∉ ts) : Kd.R k41 41 w' base ok v xs :=
  Ft.R h hR (fun q hq => by
    have hE : k41.E = [] := rfl
    rw [hE, List.mem_singleton] at hq
    rw [hq]
    exact ht)
theorem info41 : (Try.prog.info? 41).map (fun i => (i.zero, i.size, i.bytes)) = some (some (.agg #[.int .i64 0, .int .i64 0]), k41.sz, 16) := by kernel_rfl
theorem byte_at {b : List Int} (hd : Dig b) (i : Nat) : 0 ≤ byteAt b i ∧ byteAt b i < 256 := by
  unfold byteAt
  by_cases h : i < b.length
  · rw [List.getD_eq_getElem?_getD, List.getElem?_eq_getElem h]
    exact hd _ (List.getElem_mem h)
  · rw [List.getD_eq_getElem?_getD, List.getElem?_eq_none (by omega)]
    decide
set_option maxHeartbeats 8000000 in
set_option maxRecDepth 100000 in
theorem dec15 (w : World) (A0 A1 A2 : Option Addr) (l0 l1 b : List Int) (c0 c1 c2 : Nat) (hr0 : Kd.C (Kd.int .i64) w A0 l0.length l0) (hr1 : Kd.C (Kd.int .i64) w A1 l1.length l1) (hr2 : Kd.C (Kd.int .u8) w A2 b.length b) (hc2 : b.length ≤ c2) (hd : Dig b) (hl0 : l0.length ≤ 1000) (hl1 : l1.length ≤ 1000) (hl2 : b.length ≤ 10000) (hw0 : ∀ n ∈ l0, -9223372036854775808 ≤ n ∧ n < 9223372036854775808) (hw1 : ∀ n ∈ l1, -9223372036854775808 ≤ n ∧ n < 9223372036854775808) :
    Calls Try.prog 15 #[.slice A0 l0.length c0, .slice A1 l1.length c1, .slice A2 b.length c2] w fun e w' => ∃ v, e = .returned (.tuple #[v, .int .i64 (decS l0 l1 b).2]) ∧ Kd.R k41 41 w' w.heap.size (fun _ => True) v (decS l0 l1 b).1 ∧ Below w.heap.size w w' := by
  obtain ⟨B, hBB⟩ : ∃ B, B = w.heap.size := ⟨_, rfl⟩
  have hBle : B ≤ w.heap.size := by omega
  have hBge : w.heap.size ≤ B := by omega
  have HR0 := Lib.hid hr0
  have HR1 := Lib.hid hr1
  have HR2 := Lib.hid hr2
  have HW1 := Lib.hid hw1
  have HBB := Lib.hid hBB
  have HD := Lib.hid hd
  clear hr1 hr2 hw1 hBB hd
  go_enter Try.func15, Try.ntmps15
  go_wp2_with fail
  refine (begun22 _ _ _ _ hr0 hl0 hw0).mono ?_
  clear hr0 hw0
  rintro e w1 hb
  obtain ⟨ok0, mvA, mvn, mvc, rfl, hB1, hok⟩ : ∃ ok0 A n c, e = .returned (.tuple #[.agg #[.slice A n c, .int .u32 4294967295], .bool ok0]) ∧ Below w.heap.size w w1 ∧ (ok0 = true → Sizes l0 ∧ ∃ ps, IsMs w1 w.heap.size (.slice A n c) ps (freshC l0)) ∧ (ok0 = false → ¬ Sizes l0) := by
    rcases hb with ⟨hS, mv, ps, rfl, hM, hB⟩ | ⟨hS, A2, n2, c2, rfl, hB⟩
    · obtain ⟨A2, c2, rfl⟩ := hM.slice
      exact ⟨true, _, _, _, rfl, hB, fun _ => ⟨hS, ps, hM⟩, fun h => (nomatch h)⟩
    · exact ⟨false, _, _, _, rfl, hB, fun h => (nomatch h), fun _ => hS⟩
  have HOK := Lib.hid hok
  clear hok hb
  go_wp2_with fail
  have hBa := hB1.alloc hB1.size (.cells #[.slice mvA mvn mvc, .int .u32 4294967295] 54 (0, 0))
  have hS1 := Blk.here w1 54 #[.slice mvA mvn mvc, .int .u32 4294967295]
  have hMa := Lib.hid (show ok0 = true → ∃ ps, IsMs (w1.alloc (.cells #[.slice mvA mvn mvc, .int .u32 4294967295] 54 (0, 0))) w.heap.size (.slice mvA mvn mvc) ps (freshC l0) from fun h => by
    obtain ⟨_, ps, hM⟩ := HOK.out.1 h
    exact ⟨ps, CW.IsMs.ft hM ((Ft.refl 0 [] w1).alloc _) (by decide) (by decide) (by decide)⟩)
  have HOK2 := Lib.hid (show (ok0 = true → Sizes l0) ∧ (ok0 = false → ¬ Sizes l0) from ⟨fun h => (HOK.out.1 h).1, HOK.out.2⟩)
  generalize hsb : w1.heap.size = sb at *
  generalize w1.alloc (.cells #[.slice mvA mvn mvc, .int .u32 4294967295] 54 (0, 0)) = w2 at *
  clear hB1 HOK hsb
  go_loop [33, 9] (fun v v9 => ∃ i : Int, v = .int .i64 i ∧ 0 ≤ i ∧ i ≤ l1.length ∧ v9 = .bool (ok0 && (l1.take i.toNat).all (kOK l0.length))) (fun v _ => l1.length - (intOf v).toNat)
  case atStart => exact ⟨0, rfl, by omega, by omega, by simp⟩
  case round =>
    obtain ⟨i, rfl, hi0, hi1, rfl⟩ := hrel
    by_cases hlt : i < l1.length
    · have dl : decide (i < (l1.length : Int)) = true := decide_eq_true hlt
      obtain ⟨ad1, e1, y0⟩ := Kd.at_int (Kd.C_below HR1.out hBa) i hi0 hlt
      cases e1
      have p1 := eq_true hi0
      have p2 := eq_true hlt
      have hrd : rd l1 i = l1[i.toNat] := by unfold rd; rw [List.getD_eq_getElem?_getD, List.getElem?_eq_getElem (by omega)]; rfl
      have hall : (l1.take (i + 1).toNat).all (kOK l0.length) = ((l1.take i.toNat).all (kOK l0.length) && kOK l0.length l1[i.toNat]) := by
        rw [show (i + 1).toNat = i.toNat + 1 by omega, List.take_succ_eq_append_getElem (by omega), List.all_append]
        simp
      have hwk := HW1.out l1[i.toNat] (List.getElem_mem _)
      rw [hrd] at y0
      generalize l1[i.toNat] = k at *
      have HALL := Lib.hid hall
      generalize hcur : (ok0 && (l1.take i.toNat).all (kOK l0.length)) = cur at *
      have HCUR := Lib.hid (show (ok0 && (l1.take (i + 1).toNat).all (kOK l0.length)) = (cur && kOK l0.length k) by rw [hall, ← Bool.and_assoc, hcur])
      clear hall hrd hcur
      have hp30 := Lib.hid (plain30 w2 k hwk.1 hwk.2)
      cases cur with
      | false =>
        go_wp2_with (go_at_call 30; refine hp30.out.mono ?_; rintro e w' ⟨n, rfl, hn, rfl⟩; clear hn)
        go_round
        case rel => exact ⟨i + 1, rfl, by omega, by omega, by rw [HCUR.out]; rfl⟩
        case measure => simp [intOf]; omega
      | true =>
        cases hisP : isP k with
        | true =>
          have HP := Lib.hid hisP
          clear hisP
          go_wp2_with (go_at_call 30; refine hp30.out.mono ?_; rintro e w' ⟨n, rfl, hn, rfl⟩; rw [HP.out]; clear hn)
          go_round
          case rel => exact ⟨i + 1, rfl, by omega, by omega, by rw [HCUR.out]; unfold kOK; rw [HP.out]; rfl⟩
          case measure => simp [intOf]; omega
        | false =>
          have HP := Lib.hid hisP
          clear hisP
          by_cases hk0 : 0 ≤ k
          · have d1 : decide (0 ≤ k) = true := decide_eq_true hk0
            go_wp2_with (go_at_call 30; refine hp30.out.mono ?_; rintro e w' ⟨n, rfl, hn, rfl⟩; rw [HP.out]; clear hn)
            go_round
            case rel => exact ⟨i + 1, rfl, by omega, by omega, by rw [HCUR.out]; unfold kOK; rw [HP.out, decide_eq_true hk0]; simp⟩
            case measure => simp [intOf]; omega
          · have d1 : decide (0 ≤ k) = false := decide_eq_false hk0
            go_wp2_with (go_at_call 30; refine hp30.out.mono ?_; rintro e w' ⟨n, rfl, hn, rfl⟩; rw [HP.out]; clear hn)
            go_round
            case rel => exact ⟨i + 1, rfl, by omega, by omega, by rw [HCUR.out]; unfold kOK; rw [HP.out, show decide (0 ≤ k) = false from decide_eq_false (by omega)]; simp⟩
            case measure => simp [intOf]; omega
    · obtain rfl : i = l1.length := by omega
      rw [Int.toNat_natCast, List.take_length]
      cases hfin : (ok0 && l1.all (kOK l0.length)) with
      | false =>
        have HF := Lib.hid hfin
        clear hfin
        go_wp2_with fail
        go_ret2
        have he : decS l0 l1 b = ([], 2) := by
          unfold decS
          rw [if_neg]
          rintro ⟨h1, h2⟩
          have := HF.out
          rw [h2, Bool.and_true] at this
          exact HOK2.out.2 this h1
        rw [he]
        exact ⟨_, rfl, Kd.R_nil _ _ _ _ _, hBa⟩
      | true =>
        have h1 : ok0 = true := by
          cases ok0 with
          | false => simp at hfin
          | true => rfl
        have hall : l1.all (kOK l0.length) = true := by rw [h1] at hfin; simpa using hfin
        have hS := HOK2.out.1 h1
        obtain ⟨ps, hM⟩ := hMa.out h1
        have HALL := Lib.hid hall
        have HS := Lib.hid hS
        clear hfin h1 hall hS hMa HOK2
        go_wp2_with fail
        have hrb := (Blk.here w2 73 #[.slice A2 b.length c2, .int .i64 0, .int .u32 0])
        have hBb := hBa.alloc hBa.size (.cells #[.slice A2 b.length c2, .int .i64 0, .int .u32 0] 73 (0, 0))
        have hSb := hS1.alloc (.cells #[.slice A2 b.length c2, .int .i64 0, .int .u32 0] 73 (0, 0))
        have hMb : IsMs (w2.alloc (.cells #[.slice A2 b.length c2, .int .i64 0, .int .u32 0] 73 (0, 0))) w.heap.size (.slice mvA mvn mvc) ps (freshC l0) := CW.IsMs.ft hM ((Ft.refl 0 [] w2).alloc _) (by decide) (by decide) (by decide)
        have hrbB : B ≤ w2.heap.size := by have := hBa.size; omega
        generalize hrbn : w2.heap.size = rb at *
        generalize w2.alloc (.cells #[.slice A2 b.length c2, .int .i64 0, .int .u32 0] 73 (0, 0)) = w3 at *
        clear hrbn hBa hS1 hM
        go_loopw [67] (fun v wr => ∃ j : Nat, j ≤ 5 ∧ v = .int .i64 j ∧ Blk wr rb 73 #[.slice A2 b.length c2, .int .i64 j, .int .u32 (code b 0 j)] ∧ Ft B [73] w3 wr) (fun v _ => 5 - (intOf v).toNat)
        case atStart => exact ⟨0, by omega, rfl, hrb, Ft.refl _ _ _⟩
        case round =>
          obtain ⟨j, hj, rfl, hrb2, hF2⟩ := hrel
          clear hrb
          have hBc : Below B w wr := by
            have h1 : Below B w w3 := hBb.mono hBle
            exact h1.trans (hF2.below (by have := hBb.size; omega))
          by_cases hjl : j < 5
          · have hcb := code_bound b 0 j
            have hcn := code_next b 0 j (byte_at HD.out j).1 (byte_at HD.out j).2
            rw [Int.zero_mul] at hcn
            have HCN := Lib.hid hcn
            clear hcn
            have hr2' := Kd.C_below HR2.out (show Below w.heap.size w wr from hBc.mono hBge)
            have hnx := Lib.hid (next31 wr B rb A2 b c2 j (code b 0 j) hrb2 hrbB hr2' HD.out (by omega) (by omega) hcb.1 hcb.2)
            clear hr2' hcb
            go_wp2_with fail
            refine hnx.out.mono ?_
            rintro e w5 ⟨rfl, hrb5, hF5⟩
            go_wp2_with fail
            go_roundw
            case rel =>
              rw [HCN.out] at hrb5
              exact ⟨j + 1, by omega, by go_num, hrb5, hF2.trans hF5⟩
            case measure => simp [intOf]; omega
          · obtain rfl : j = 5 := by omega
            have hSc := hF2.blk hSb (by decide)
            have hMc := CW.IsMs.ft hMb hF2 (by decide) (by decide) (by decide)
            have s0 : wr.cell? ⟨sb, 0, none⟩ = some (.slice mvA mvn mvc) := hSc.cell 0
            have s1 : wr.cell? ⟨sb, 1, none⟩ = some (.int .u32 4294967295) := hSc.cell 1
            obtain ⟨wo, rfl⟩ : ∃ wo : World, wo = wr := ⟨_, rfl⟩
            clear hSb hMb hBb hSc
            go_wp2_with fail
            refine (ready23 _ _ _ ⟨_, _, _, rfl⟩).mono ?_
            rintro e w6 ⟨g, rfl, hg, hE, hB6⟩
            have hM6 := hMc.below hB6
            have hrb6 := hrb2.below hB6
            have hBd : Below B w w6 := hBc.trans (hB6.mono (by have := hBc.size; omega))
            have hgB : B ≤ g := by have := hBc.size; omega
            have hgrb : rb < g := by have := hrb2.lt; omega
            clear hMc hrb2 hBc hB6 s0 s1 hF2
            generalize hmv : Value.slice mvA mvn mvc = mv at *
            have HMV := Lib.hid hmv
            clear hmv
            go_wp2_with fail
            have hBeq : w.heap.size = B := by omega
            rw [hBeq] at hM6
            clear hBeq
            go_loopw [76, 16] (fun v v16 wr => ∃ i : Int, v = .int .i64 i ∧ 0 ≤ i ∧ i ≤ l1.length ∧ DecInv B g rb A2 b c2 mv ps (st0 (freshC l0)) (l1.take i.toNat) w v16 wr) (fun v _ _ => l1.length - (intOf v).toNat)
            case atStart => exact ⟨0, rfl, by omega, by omega, st0 (freshC l0), _, _, _, _, _, [], rfl, hE, hM6, st0_pr _, hrb6, Kd.R_nil _ _ _ _ _, hBd⟩
            case round =>
              clear hE hM6 hrb6 hBd
              obtain ⟨i, rfl, hi0, hi1, t, ov, o, c, h, l, xs, hread, hE, hM, hPr, hrb, hR16, hBd⟩ := hrel
              have hMs := fresh_mods HS.out.2
              have hrun := read_run _ _ _ _ _ hread
              have hWI := run_within _ (st0_inv hMs) hrun.1
              have hI := hWI.inv
              have hLens := run_lens _ hrun.1
              have hCl : t.C.length = l0.length := by
                have := congrArg List.length hLens
                rw [List.length_map, List.length_map] at this
                rw [this]
                show (freshC l0).length = _
                unfold freshC
                rw [List.length_map]
              have hxl : xs.length = i.toNat := by
                have := congrArg List.length hrun.2
                rw [List.length_map, List.length_take] at this
                omega
              have hLb := run_L _ (st0_inv hMs) hrun.1
              have hL5 : (st0 (freshC l0)).L = 5 := rfl
              have hlen : o.length + h ≤ t.L := by have := hPr.wr.len; omega
              have r0 : wr.cell? ⟨rb, 0, none⟩ = some (.slice A2 b.length c2) := hrb.cell 0
              have r1 : wr.cell? ⟨rb, 1, none⟩ = some (.int .i64 t.L) := hrb.cell 1
              have r2 : wr.cell? ⟨rb, 2, none⟩ = some (.int .u32 (code b t.V t.L)) := hrb.cell 2
              obtain ⟨A6, c6, rfl⟩ := Kd.R_slice hR16
              by_cases hlt : i < l1.length
              · have dl : decide (i < (l1.length : Int)) = true := decide_eq_true hlt
                obtain ⟨ad1, e1, y0⟩ := Kd.at_int (Kd.C_below HR1.out (show Below w.heap.size w wr from hBd.mono hBge)) i hi0 hlt
                cases e1
                have p1 := eq_true hi0
                have p2 := eq_true hlt
                have hrd : rd l1 i = l1[i.toNat] := by unfold rd; rw [List.getD_eq_getElem?_getD, List.getElem?_eq_getElem (by omega)]; rfl
                have hmem : l1[i.toNat] ∈ l1 := List.getElem_mem _
                have hwk := HW1.out _ hmem
                have hkok := List.all_eq_true.1 HALL.out _ hmem
                have htk : l1.take (i + 1).toNat = l1.take i.toNat ++ [l1[i.toNat]] := by rw [show (i + 1).toNat = i.toNat + 1 by omega, List.take_succ_eq_append_getElem (by omega)]
                have hall : l1 = l1.take i.toNat ++ (l1[i.toNat] :: l1.drop (i.toNat + 1)) := by
                  rw [← List.drop_eq_getElem_cons (by omega), List.take_append_drop]
                rw [hrd] at y0
                generalize l1[i.toNat] = k at *
                have HALL2 := Lib.hid hall
                have HTK := Lib.hid htk
                have HREAD := Lib.hid hread
                have HI := Lib.hid hI
                have HRUN := Lib.hid hrun
                have HXL := Lib.hid hxl
                clear hrd hmem htk hall hread hI hrun hLens hWI hxl
                by_cases hbl : b.length < t.L
                · have d1 : decide ((b.length : Int) < (t.L : Int)) = true := decide_eq_true (by omega)
                  have d2 : decide (b.length < t.L) = true := decide_eq_true hbl
                  go_wp2_with fail
                  go_ret2
                  have he : decS l0 l1 b = ([], 11) := by
                    unfold decS
                    rw [if_pos ⟨HS.out, HALL.out⟩]
                    have h0 : CM.read (gP b) (st0 (freshC l0)) l1 = none := by
                      rw [HALL2.out, show l1.take i.toNat ++ (k :: l1.drop (i.toNat + 1)) = (l1.take i.toNat ++ [k]) ++ l1.drop (i.toNat + 1) by simp]
                      refine read_none_append _ _ _ _ ?_
                      rw [read_snoc, HREAD.out, Option.bind_some, show gP b t k = none by unfold gP; rw [if_pos hbl]]
                      rfl
                    unfold CM.decode
                    rw [h0]
                    rfl
                  rw [he]
                  exact ⟨_, rfl, Kd.R_nil _ _ _ _ _, hBd.mono hBge⟩
                · have d1 : decide ((b.length : Int) < (t.L : Int)) = false := decide_eq_false (by omega)
                  have d2 : decide (b.length < t.L) = false := decide_eq_false hbl
                  obtain ⟨hw0, hw1⟩ := kOK_whole HI.out.mods hCl hkok
                  have hcb := code_bound b t.V t.L
                  have hR0 := HI.out.r0
                  have hR1 := HI.out.r1
                  obtain ⟨x, hx⟩ : ∃ x, x = whole t.C k := ⟨_, rfl⟩
                  obtain ⟨q, hq⟩ : ∃ q, q = t.R / x := ⟨_, rfl⟩
                  have hq2 : q = t.R / whole t.C k := by rw [hq, hx]
                  obtain ⟨cd, hcd⟩ : ∃ cd, cd = code b t.V t.L := ⟨_, rfl⟩
                  have hq256 : 256 ≤ q := by rw [hq2, Int.le_ediv_iff_mul_le (by omega)]; omega
                  have hqR : q ≤ t.R := by
                    have h1 : q * whole t.C k ≤ t.R := by rw [hq2]; exact Int.ediv_mul_le _ (by omega)
                    have := Int.mul_le_mul_of_nonneg_left (show 1 ≤ whole t.C k by omega) (show 0 ≤ q by omega)
                    omega
                  rw [← hx] at hw0 hw1
                  rw [← hcd] at hcb r2
                  have hv0 : 0 ≤ cd / q := Int.ediv_nonneg hcb.1 (by omega)
                  have hv1 : cd / q ≤ cd := Int.ediv_le_self _ hcb.1
                  obtain ⟨v, hv⟩ : ∃ v, v = cd / q := ⟨_, rfl⟩
                  rw [← hv] at hv0 hv1
                  have hmn0 : 0 ≤ mn v (x - 1) ∧ mn v (x - 1) < x := by unfold mn; split <;> omega
                  obtain ⟨a, n, hsh, _, _⟩ := find_some HI.out.mods (k := k) (v := mn v (x - 1)) (by rw [← hx]; exact hw0) hmn0.1 (by rw [← hx]; exact hmn0.2)
                  obtain ⟨sv, hsv⟩ : ∃ sv, sv = findS t.C k (mn v (x - 1)) := ⟨_, rfl⟩
                  rw [← hsv] at hsh
                  have hgp : gP b t k = some sv := by
                    unfold gP
                    rw [if_neg hbl, ← hx, ← hq, ← hcd, ← hv, hsv]
                    rfl
                  obtain ⟨u, hu⟩ := step_of_share (x := (k, sv)) hsh
                  obtain ⟨a2, n2, hst⟩ := step_some HI.out hu
                  have han : a2 = a ∧ n2 = n := by
                    have := hst.sh
                    rw [hsh] at this
                    injection this with this
                    injection this with e1 e2
                    exact ⟨e1.symm, e2.symm⟩
                  obtain ⟨rfl, rfl⟩ := han
                  have hPu := hPr.step HI.out hst _ rfl
                  have hss := share_some HI.out.mods hsh
                  have hrd2 : CM.read (gP b) (st0 (freshC l0)) (l1.take (i + 1).toNat) = some (xs ++ [(k, sv)], u) := by
                    rw [HTK.out, read_snoc, HREAD.out, Option.bind_some]
                    show ((gP b t k).bind fun s => (CM.step t (k, s)).map fun v => (xs ++ [(k, s)], v)) = _
                    rw [hgp, Option.bind_some, hu]
                    rfl
                  have hqa0 : 0 ≤ q * a2 := Int.mul_nonneg (by omega) hss.2.1
                  have hqle := hst.qle
                  have hq1' := hst.q256
                  rw [← hq2, Int.mul_add] at hqle
                  rw [← hq2] at hq1'
                  have hss0 := hss.1
                  have hss1 : a2 ≤ 65536 := by have := hss.2.2.2.1; have := hss.2.2.1; rw [← hx] at *; omega
                  have hss2 := hss.2.1
                  have HX := Lib.hid hx
                  have HQ := Lib.hid hq
                  have HQ2 := Lib.hid hq2
                  have HCD := Lib.hid hcd
                  have HV := Lib.hid hv
                  have HSV := Lib.hid hsv
                  have HSH := Lib.hid hsh
                  have HU := Lib.hid hu
                  have HST := Lib.hid hst
                  have HPU := Lib.hid hPu
                  have HRD2 := Lib.hid hrd2
                  have hW : ∀ j : Nat, Calls Try.prog 32 #[.pointer (some ⟨g, 0, none⟩), .int .i64 k] (wr.drewN j) fun e w' => e = .returned (.int .i64 x) ∧ wr.drewN j = w' := fun j => by
                    have := whole32 (wr.drewN j) g B mv ps t.C k hwk.1 hwk.2 ((hE.drewN j).blk.cell 0) (hM.drewN j) (by omega)
                    rw [← HX.out] at this
                    exact this
                  have HW := Lib.hid hW
                  have hwv1 : IntKind.u32.wrap (cd.tdiv q) = v := by rw [Int.tdiv_eq_ediv_of_nonneg hcb.1, ← HV.out, IntKind.wrap_u32]; omega
                  have hwv2 : IntKind.i64.wrap v = v := by simp only [i64_w]; unfold wrap64; omega
                  have HWV1 := Lib.hid hwv1
                  have HWV2 := Lib.hid hwv2
                  have hFI : ∀ W : World, W.cell? ⟨g, 0, none⟩ = some mv → IsMs W B mv ps t.C → Calls Try.prog 33 #[.pointer (some ⟨g, 0, none⟩), .int .i64 k, .int .i64 v] W fun e w' => e = .returned (.int .i64 sv) ∧ W = w' := fun W h1 h2 => by
                    have := find33 W g B mv ps t.C k v hwk.1 hwk.2 h1 h2 HI.out.mods (by omega) (by rw [← HX.out]; exact hw0) hv0 (by omega)
                    rw [← HX.out, ← HSV.out] at this
                    exact this
                  have HFI := Lib.hid hFI
                  have e1 : wr.cell? ⟨g, 1, none⟩ = some (.int .u32 t.R) := hE.blk.cell 1
                  clear hwv1 hwv2 hx hq hq2 hcd hv hsv hsh hu hst hPu hrd2 hW hFI hgp hmn0 hss
                  go_wp2_with fail
                  go_quiet ((go_at_call 32; exact quiet_one (HW.out _)))
                  rw [← HQ.out]
                  go_wp2_with fail
                  have hEq := hE.drewN nq
                  have hMq := hM.drewN nq
                  have hrbq : Blk (wr.drewN nq) rb 73 #[.slice A2 b.length c2, .int .i64 t.L, .int .u32 cd] := by have := hrb.drewN nq; rw [← HCD.out] at this; exact this
                  have hFq : Ft B [] wr (wr.drewN nq) := (Ft.refl B [] wr).drewN nq
                  have hR16q := Ft.R hFq hR16 (fun q _ => by simp)
                  generalize wr.drewN nq = wq at *
                  clear hE hM hrb hR16 r0 r1 r2 e1
                  have r2q : wq.cell? ⟨rb, 2, none⟩ = some (.int .u32 cd) := hrbq.cell 2
                  have r2d : wq.drew.cell? ⟨rb, 2, none⟩ = some (.int .u32 cd) := hrbq.cell 2
                  have r2a : ((wq.alloc (.cells #[.int .i64 0, .int .i64 0] 41 (0, 0))).drew).cell? ⟨rb, 2, none⟩ = some (.int .u32 cd) := (hrbq.alloc _).cell 2
                  have fi1 := Lib.hid (HFI.out wq.drew (hEq.drew.blk.cell 0) (CW.IsMs.ft hMq ((Ft.refl B [] wq).drew) (by decide) (by decide) (by decide)))
                  have fi2 := Lib.hid (HFI.out ((wq.alloc (.cells #[.int .i64 0, .int .i64 0] 41 (0, 0))).drew) ((hEq.alloc _).drew.blk.cell 0) (CW.IsMs.ft hMq (((Ft.refl B [] wq).alloc _).drew) (by decide) (by decide) (by decide)))
                  have dq0 : decide (q = 0) = false := decide_eq_false (by omega)
                  have dq1 : (q == 0) = false := beq_eq_false_iff_ne.2 (by omega)
                  have hqne : ¬ q = 0 := by omega
                  have hqne2 : q ≠ 0 := by omega
                  have r2b : ((wq.alloc (.cells #[.int .i64 k, .int .i64 sv] 41 (0, 0))).drew).cell? ⟨rb, 2, none⟩ = some (.int .u32 cd) := (hrbq.alloc _).cell 2
                  have hwv1 := HWV1.out
                  have hwv2 := HWV2.out
                  have hxb := (Blk.here wq 41 #[.int .i64 k, .int .i64 sv]).drew
                  have hEc := (hEq.alloc (.cells #[.int .i64 k, .int .i64 sv] 41 (0, 0))).drew
                  have hFc : Ft B [] wr (wq.alloc (.cells #[.int .i64 k, .int .i64 sv] 41 (0, 0))).drew := (hFq.alloc _).drew
                  have hMc : IsMs (wq.alloc (.cells #[.int .i64 k, .int .i64 sv] 41 (0, 0))).drew B mv ps t.C := CW.IsMs.ft hMq ((Ft.refl B [] wq).alloc _).drew (by decide) (by decide) (by decide)
                  have hrbc := (hrbq.alloc (.cells #[.int .i64 k, .int .i64 sv] 41 (0, 0))).drew
                  have hR16c := Ft.R ((Ft.refl B [] wq).alloc (.cells #[.int .i64 k, .int .i64 sv] 41 (0, 0))).drew hR16q (fun q _ => by simp)
                  go_cut [20] (fun s20 wx => s20 = .pointer (some ⟨wq.heap.size, 0, none⟩) ∧ wx = (wq.alloc (.cells #[.int .i64 k, .int .i64 sv] 41 (0, 0))).drew)
                  case first =>
                    go_region_held3 (fun w' => w'.cell? ⟨rb, 2, none⟩ = some (.int .u32 cd)) (first | exact r2d | exact r2a | exact r2b) (first | (go_at_call 33; (with_reducible refine fi1.out.mono ?_); rintro e w' ⟨rfl, rfl⟩) | (go_at_call 33; (with_reducible refine fi2.out.mono ?_); rintro e w' ⟨rfl, rfl⟩))
                    all_goals
                      go_wp2_with fail
                      go_meet
                      exact ⟨rfl, rfl⟩
                  case rest =>
                    obtain ⟨rfl, rfl⟩ := hcut
                    generalize hxbn : wq.heap.size = xb at *
                    generalize (wq.alloc (.cells #[.int .i64 k, .int .i64 sv] 41 (0, 0))).drew = wy at *
                    clear hEq hMq hrbq hR16q hFq fi1 fi2 r2q r2d r2a r2b hxbn hwv1 hwv2
                    go_upto_region 26 with fail
                    have x0 : wy.drew.cell? ⟨xb, 0, none⟩ = some (.int .i64 k) := hxb.cell 0
                    have x1 : wy.drew.cell? ⟨xb, 1, none⟩ = some (.int .i64 sv) := hxb.cell 1
                    have hSc := Lib.hid (share34 wy.drew g B mv ps t.C k sv hwk.1 hwk.2 (hEc.drew.blk.cell 0) (CW.IsMs.ft hMc ((Ft.refl B [] wy).drew) (by decide) (by decide) (by decide)) HI.out.mods (by omega))
                    go_cut [21] (fun s21 wx => s21 = .int .i64 a2 ∧ Ft B [] wy wx)
                    case first =>
                      go_region_held3 (fun w' => w'.cell? ⟨xb, 0, none⟩ = some (.int .i64 k) ∧ w'.cell? ⟨xb, 1, none⟩ = some (.int .i64 sv)) (first | exact ⟨x0, x1⟩ | exact ⟨hx7.cell 0, hx7.cell 1⟩) (first | (go_at_call 34; (with_reducible refine hSc.out.mono ?_); rintro e w7 ⟨a', n', rfl, hp, hb7⟩; have hp2 := (hp _ HSH.out).1; clear hp; change a' = a2 at hp2; subst hp2; rw [HSH.out]; have hx7 := hxb.drew.below hb7; have hF7 : Ft B [] wy w7 := ((Ft.refl B [] wy).drew).below_ hb7))
                      all_goals
                        go_wp2_with fail
                        go_meet
                        exact ⟨rfl, hF7⟩
                    case rest =>
                      obtain ⟨rfl, hF7⟩ := hcut
                      have hEd := hEc.ft hF7 (by decide) (by decide)
                      have hMd := CW.IsMs.ft hMc hF7 (by decide) (by decide) (by decide)
                      have hrbd := hF7.blk hrbc (by decide)
                      have hR16d := Ft.R hF7 hR16c (fun q _ => by simp)
                      have hxbd := hF7.blk hxb (by decide)
                      have hFd : Ft B [] wr wc := hFc.trans hF7
                      clear hEc hMc hrbc hR16c hxb hFc hF7 x0 x1 hSc
                      have hcz : IntKind.u32.wrap (cd - q * a2) = code b (t.V + q * a2) t.L := by rw [IntKind.wrap_u32, HCD.out, code_sub]
                      have hczb := code_bound b (t.V + q * a2) t.L
                      generalize hczn : code b (t.V + q * a2) t.L = cz at *
                      have HCZ := Lib.hid hczn
                      clear hczn
                      have hF8 := (Ft.refl B [73] wc).setCell (p := ⟨rb, 2, none⟩) hrbd (by decide) hrbB (.int .u32 cz)
                      have hrb8 := hrbd.set_ 2 (.int .u32 cz)
                      have hE8 := hEd.ft hF8 (by decide) (by decide)
                      have hM8 := CW.IsMs.ft hMd hF8 (by decide) (by decide) (by decide)
                      have hR168 := R41_ft hF8 hR16d (by decide)
                      have hxb8 := hF8.blk hxbd (by decide)
                      have hF9 : Ft B [73] wr (wc.setCell ⟨rb, 2, none⟩ (.int .u32 cz)) := (hFd.mono (Nat.le_refl B) (by simp)).trans hF8
                      have z2 : wc.cell? ⟨rb, 2, none⟩ = some (.int .u32 cd) := hrbd.cell 2
                      have zf2 := hrbd.frozen 2
                      have z0 : (wc.setCell ⟨rb, 2, none⟩ (.int .u32 cz)).cell? ⟨xb, 0, none⟩ = some (.int .i64 k) := hxb8.cell 0
                      have z1 : (wc.setCell ⟨rb, 2, none⟩ (.int .u32 cz)).cell? ⟨xb, 1, none⟩ = some (.int .i64 sv) := hxb8.cell 1
                      have hCS := Lib.hid (code_some (wc.setCell ⟨rb, 2, none⟩ (.int .u32 cz)) g B mv ov t.R c l o h ps t.C k sv a2 n2 (t.R / whole t.C k) _ hwk.1 hwk.2 hE8 hM8 HI.out.mods (by omega) HSH.out hgB rfl rfl hR0 hR1 hPr.wr.l0 hPr.sum hPr.wr.c0 hPr.wr.c1 hPr.wr.h1 (by omega))
                      clear hEd hMd hrbd hR16d hxbd hFd hF8
                      go_wp2_with fail
                      refine hCS.out.mono ?_
                      rintro e w10 ⟨rfl, ov10, hE10, hM10, hF10⟩
                      have hrb10 := hF10.blk hrb8 (by decide)
                      have hR1610 := R41_ft hF10 hR168 (by decide)
                      have hxb10 := hF10.blk hxb8 (by decide)
                      have hF11 : Ft B [73, 78, 5, 103, 3] wr w10 := (hF9.mono (Nat.le_refl B) (by decide)).trans (hF10.mono (Nat.le_refl B) (by decide))
                      have hrb11 : Blk w10 rb 73 #[.slice A2 b.length c2, .int .i64 t.L, .int .u32 cz] := hrb10
                      have hm2 := many_le2 (t.R / whole t.C k * n2)
                      obtain ⟨m, hm⟩ : ∃ m, m = many (t.R / whole t.C k * n2) := ⟨_, rfl⟩
                      rw [← hm] at hE10 hm2 ⊢
                      have HM := Lib.hid hm
                      clear hm hrb8 hE8 hM8 hR168 hxb8 hF9 z2 zf2 z0 z1 hCS hF10 hrb10 hcz
                      go_wp2_with fail
                      obtain ⟨wp, rfl⟩ : ∃ wp : World, wp = wr := ⟨_, rfl⟩
                      go_loopw [140] (fun v wx => ∃ j : Nat, j ≤ m ∧ v = .int .i64 j ∧ Blk wx rb 73 #[.slice A2 b.length c2, .int .i64 (t.L + j : Nat), .int .u32 (code b ((t.V + q * a2) * pw j) (t.L + j))] ∧ Ft B [73] w10 wx) (fun v _ => m - (intOf v).toNat)
                      case atStart => exact ⟨0, Nat.zero_le _, rfl, by rw [pw_zero, Int.mul_one, Nat.add_zero, HCZ.out]; exact hrb11, Ft.refl _ _ _⟩
                      case round =>
                        obtain ⟨j, hj, rfl, hrbj, hFj⟩ := hrel
                        have hFj2 : Ft B [73, 78, 5, 103, 3] wp wr := hF11.trans (hFj.mono (Nat.le_refl B) (by decide))
                        have hBwj : Below B w wr := hBd.trans (hFj2.below (by have := hBd.size; omega))
                        by_cases hjm : j < m
                        · have hcb2 := code_bound b ((t.V + q * a2) * pw j) (t.L + j)
                          have hcn := code_next b ((t.V + q * a2) * pw j) (t.L + j) (byte_at HD.out _).1 (byte_at HD.out _).2
                          rw [show (t.V + q * a2) * pw j * 256 = (t.V + q * a2) * pw (j + 1) by rw [pw_succ, Int.mul_assoc]] at hcn
                          have HCN := Lib.hid hcn
                          clear hcn
                          have hnx := Lib.hid (next31 wr B rb A2 b c2 (t.L + j) (code b ((t.V + q * a2) * pw j) (t.L + j)) hrbj hrbB (Kd.C_below HR2.out (hBwj.mono hBge)) HD.out (by omega) (by omega) hcb2.1 hcb2.2)
                          clear hcb2
                          go_wp2_with fail
                          refine hnx.out.mono ?_
                          rintro e w12 ⟨rfl, hrb12, hF12⟩
                          go_wp2_with fail
                          go_roundw
                          case rel =>
                            rw [HCN.out] at hrb12
                            exact ⟨j + 1, by omega, by go_num, hrb12, hFj.trans hF12⟩
                          case measure => simp [intOf]; omega
                        · obtain rfl : j = m := by omega
                          have hR17 : Kd.R k41 41 wr B (fun _ => True) (.slice A6 xs.length c6) (xs.map unpair) := by
                            have := R41_ft hFj hR1610 (by decide)
                            rw [List.length_map] at this
                            exact this
                          have hEj := hE10.ft hFj (by decide) (by decide)
                          have hMj := CW.IsMs.ft hM10 hFj (by decide) (by decide) (by decide)
                          have hxbj := hFj.blk hxb10 (by decide)
                          have v0 : wr.cell? ⟨xb, 0, none⟩ = some (.int .i64 k) := hxbj.cell 0
                          have v1 : wr.cell? ⟨xb, 1, none⟩ = some (.int .i64 sv) := hxbj.cell 1
                          have hBsz : B ≤ wr.heap.size := by have := hBwj.size; omega
                          have hxl : xs.length ≤ 1000 := by rw [HXL.out]; omega
                          have hlA : ((xs.map unpair).length + 1) * 16 ≤ 140737488355328 := by rw [List.length_map]; omega
                          clear hrb11 hE10 hM10 hR1610 hxb10
                          go_wp2_with (first | (at_builtin; go_must (refine Kd.R_append k41 (w0 := wr) (W := wr) B rfl (.tmp 145) (.tmp 147) 23 41 (.agg #[.int .i64 0, .int .i64 0]) 16 rfl Try.underlying23 info41 rfl (by decide) (by decide) _ (xs.map unpair) ⟨k, sv⟩ [.int .i64 k, .int .i64 sv] (fun _ => True) (fun _ => False) rfl rfl ⟨[.int .i64 k], [.int .i64 sv], rfl, rfl, rfl⟩ (fun _ hk => hk.elim) (fun _ _ => trivial) hR17 (Below.refl _ _) hBsz hlA ?_); intro v18 w18 hR18 hb18 hg18 hat18))
                          go_roundw
                          case rel =>
                            obtain ⟨inner, hown⟩ := Kd.R_own hR17
                            have hF18 : Ft B [41] wr w18 := (Ft.refl B _ wr).grown hg18 (fun jj hjj => by
                              obtain ⟨h1, cs, h2⟩ := own_row hown jj hjj
                              exact ⟨h1, cs, 41, h2, by decide⟩)
                            have hrb18 := hF18.blk hrbj (by decide)
                            have hr := HST.out.r
                            have hv := HST.out.v
                            have hl := HST.out.l
                            have hc := HST.out.c
                            have hlm : u.L - t.L = j := by rw [HM.out]; change u.L = t.L + many (t.R / whole t.C k * n2) at hl; omega
                            have hlu : u.L = t.L + j := by rw [HM.out]; exact hl
                            rw [hlm] at hr hv
                            have hPU := HPU.out
                            rw [← HM.out] at hPU
                            refine ⟨i + 1, rfl, by omega, by omega, u, ov10, _, _, _, _, xs ++ [(k, sv)], HRD2.out, ?_, ?_, hPU, ?_, ?_, ?_⟩
                            · rw [hr]
                              exact hEj.ft hF18 (by decide) (by decide)
                            · rw [hc]
                              exact CW.IsMs.ft hMj hF18 (by decide) (by decide) (by decide)
                            · rw [hv, hlu, ← HQ2.out]
                              exact hrb18
                            · rw [List.map_append]
                              exact hR18
                            · exact hBwj.trans (hF18.below hBsz)
                          case measure => simp [intOf]; omega
              · obtain rfl : i = l1.length := by omega
                have hbd := bd_of hPr hI (by omega)
                have hL9 : t.L ≤ 5000 := by omega
                have hE26 := Lib.hid (end26 wr g mv ov t.R c l o h hE hbd)
                have hends := Lib.hid hPr.wr.ends
                have hrd := hread
                rw [Int.toNat_natCast, List.take_length] at hrd
                have hdec : CM.decode (gP b) (st0 (freshC l0)) l1 b = if digs t.L t.V = b then some xs else none := by
                  unfold CM.decode
                  rw [hrd]
                  rfl
                have HDEC := Lib.hid hdec
                clear hdec hrd hread hrun hLens hWI hI hPr hlen hxl
                go_wp2_with fail
                refine hE26.out.mono ?_
                rintro e w20 ⟨ov2, rfl, hRo, hF20⟩
                rw [hends.out] at hRo
                obtain ⟨A7, c7, rfl, hc7, hC7⟩ := Kd.R_reads hRo
                have hB20 : Below B w w20 := hBd.trans ((hF20.mono hgB (fun _ h => h)).below (by have := hBd.size; omega))
                have hR20 : Kd.R k41 41 w20 B (fun _ => True) (.slice A6 (xs.map unpair).length c6) (xs.map unpair) := R41_ft hF20 hR16 (by decide)
                have hC2 := Kd.C_below HR2.out (hB20.mono hBge)
                obtain ⟨ke, hke⟩ := equal_ev (digs t.L t.V) b (by rw [digs_length]; omega)
                generalize hdg : digs t.L t.V = dg at *
                have HDG := Lib.hid hdg
                have hEq := Lib.hid (slices_Equal_byte_byte.calls ke A7 c7 dg A2 c2 b (decide (dg = b)) w20 hC7 hc7 hC2 hc2 hke)
                clear hke hdg hE26 hends hRo hF20 hC7 hC2 hE hM hrb r0 r1 r2 hR16
                by_cases heq : dg = b
                · have HE := Lib.hid heq
                  have hdt : decide (dg = b) = true := decide_eq_true heq
                  have HDT := Lib.hid hdt
                  clear heq hdt
                  go_wp2_with fail
                  refine hEq.out.mono ?_
                  rintro e w21 ⟨rfl, hD⟩
                  rw [HDT.out]
                  have hB21 := hD.below
                  go_wp2_with fail
                  go_ret2
                  have he : decS l0 l1 b = (xs.map unpair, 0) := by
                    unfold decS
                    rw [if_pos ⟨HS.out, HALL.out⟩, HDEC.out, if_pos HE.out]
                  rw [he]
                  refine ⟨_, rfl, ?_, (hB20.trans (hB21.mono (by have := hB20.size; omega))).mono hBge⟩
                  have := Kd.R_lower (Kd.R_below hR20 hB21) hBge
                  rw [List.length_map] at this
                  exact this
                · have HE := Lib.hid heq
                  have hdt : decide (dg = b) = false := decide_eq_false heq
                  have HDT := Lib.hid hdt
                  clear heq hdt
                  go_wp2_with fail
                  refine hEq.out.mono ?_
                  rintro e w21 ⟨rfl, hD⟩
                  rw [HDT.out]
                  have hB21 := hD.below
                  go_wp2_with fail
                  go_ret2
                  have he : decS l0 l1 b = ([], 11) := by
                    unfold decS
                    rw [if_pos ⟨HS.out, HALL.out⟩, HDEC.out, if_neg HE.out]
                  rw [he]
                  exact ⟨_, rfl, Kd.R_nil _ _ _ _ _, (hB20.trans (hB21.mono (by have := hB20.size; omega))).mono hBge⟩
end Go.Proofs.Ythegimfokcdehaa.CW
