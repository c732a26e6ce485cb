/- coder.Encode walked. -/
import Derived.Test.YthegimfokcdehaaCoderWalkAll
import Derived.Test.YthegimfokcdehaaCoderMathAll
import Derived.Test.YthegimfokcdehaaPCodx2
namespace Go.Proofs.Ythegimfokcdehaa.CW
open Go Go.RowKit Go.Proofs.Ythegimfokcdehaa.Mem Go.Proofs.Ythegimfokcdehaa.CM Go.Proofs.Ythegimfokcdehaa.MW Go.Proofs.Ythegimfokcdehaa.PCod Go.Proofs.YthegimfokcdehaaW.PrintWords Go.Proofs.YthegimfokcdehaaW.PrintLast Go.Proofs.YthegimfokcdehaaW.PrintMore
set_option linter.unusedVariables false
set_option linter.unusedSimpArgs false
def pairs (l : List S41) : List (Int × Int) := l.map fun x => (x.f0, x.f1)
def wfC (x : S41) : Prop := -9223372036854775808 ≤ x.f0 ∧ x.f0 < 9223372036854775808 ∧ -9223372036854775808 ≤ x.f1 ∧ x.f1 < 9223372036854775808
instance (l : List Int) : Decidable (Sizes l) := by unfold Sizes; infer_instance
def encS (sizes : List Int) (l : List S41) : List Int × Int :=
  if Sizes sizes then (match run (st0 (freshC sizes)) (pairs l) with | none => ([], 2) | some u => (digs u.L u.V, 0)) else ([], 2)
theorem plain_pow {k : Int} (h : isPlain k) : wrap64 (2 ^ (mn (mx (wrap64 (-k)) 0) 16).toNat) = CM.bits k := by
  have hb := bits_bound h.1 h.2
  have h1 : wrap64 (-k) = -k := by have := h.1; have := h.2; unfold wrap64; omega
  have h2 : mn (mx (wrap64 (-k)) 0) 16 = -k := by
    rw [h1]
    have := h.1
    have := h.2
    unfold mn mx
    repeat' split
    all_goals omega
  rw [h2]
  show wrap64 (CM.bits k) = CM.bits k
  unfold wrap64
  omega
theorem known_ev {C : List (List Int)} {l0 : List Int} (hl : C.map List.length = l0.map Int.toNat) {k s : Int} {p : Int × Int} (hsh : share C k s = some p) : coder_known.f l0 k s = some true := by
  unfold coder_known.f coder_plain.f
  by_cases hk : k < 0
  · rw [if_pos hk, Option.bind_some]
    by_cases h16 : k ≥ -16
    · have hp : isPlain k := ⟨hk, h16⟩
      rw [share_plain hp] at hsh
      by_cases hs : 0 ≤ s ∧ s < CM.bits k
      · simp only [decide_eq_true h16, plain_pow hp, if_true, if_pos (show s ≥ 0 from hs.1), decide_eq_true hs.2]
      · rw [if_neg hs] at hsh; cases hsh
    · rw [share_out (fun h => h16 h.2) (fun h => by omega)] at hsh
      cases hsh
  · rw [if_neg hk, Option.bind_some]
    obtain ⟨i, rfl⟩ := Int.eq_ofNat_of_zero_le (show 0 ≤ k by omega)
    by_cases hi : i < C.length
    · rw [share_at hi] at hsh
      have hlen : C.length = l0.length := by have := congrArg List.length hl; simpa using this
      by_cases hs : 0 ≤ s ∧ s < (C.getD i []).length
      · have h1 : (C.getD i []).length = (l0.getD i 0).toNat := by
          have := congrArg (fun l => l[i]?) hl
          simp only [List.getElem?_map] at this
          rw [List.getElem?_eq_getElem hi, List.getElem?_eq_getElem (by omega), Option.map_some, Option.map_some] at this
          injection this with this
          rw [List.getD_eq_getElem?_getD, List.getElem?_eq_getElem hi, List.getD_eq_getElem?_getD, List.getElem?_eq_getElem (show i < l0.length by omega)]
          exact this
        have h2 : s < rd l0 (i : Int) := by
          unfold rd
          rw [Int.toNat_natCast]
          have := hs.2
          rw [h1] at this
          omega
        simp only [Bool.false_eq_true, if_false, if_pos (show (i : Int) ≥ 0 by omega), if_pos (show (i : Int) < (l0.length : Int) by omega), if_pos (show s ≥ 0 from hs.1), if_pos (show 0 ≤ (i : Int) by omega), decide_eq_true h2]
      · rw [if_neg hs] at hsh; cases hsh
    · rw [share_out (fun h => by have := h.1; omega) (fun h => by omega)] at hsh
      cases hsh
theorem run_shares : ∀ (xs : List (Int × Int)) {t u : St}, run t xs = some u → ∀ x ∈ xs, ∃ C p, C.map List.length = t.C.map List.length ∧ share C x.1 x.2 = some p
  | [], t, u, e, x, hx => by simp at hx
  | y :: ys, t, u, e, x, hx => by
    rw [run] at e
    obtain ⟨v, hv, hr⟩ := Option.bind_eq_some_iff.1 e
    have hv' := hv
    unfold CM.step at hv'
    obtain ⟨p, hp, hu⟩ := Option.map_eq_some_iff.1 hv'
    rcases List.mem_cons.1 hx with rfl | hx
    · exact ⟨t.C, p, rfl, hp⟩
    · obtain ⟨C, q, h1, h2⟩ := run_shares ys hr x hx
      exact ⟨C, q, by rw [h1, ← hu]; exact cntC_lens _ _ _, h2⟩
theorem fresh_lens (l : List Int) : (freshC l).map List.length = l.map Int.toNat := by unfold freshC; rw [List.map_map]; apply List.map_congr_left; intro n _; simp
theorem known_all {l0 : List Int} {l1 : List S41} {u : St} (h : run (st0 (freshC l0)) (pairs l1) = some u) : ∀ x ∈ l1, coder_known.f l0 x.f0 x.f1 = some true := by
  intro x hx
  obtain ⟨C, p, h1, h2⟩ := run_shares _ h (x.f0, x.f1) (by unfold pairs; exact List.mem_map.2 ⟨x, hx, rfl⟩)
  exact known_ev (by rw [h1]; exact fresh_lens l0) h2
theorem bd_of {t : St} {o : List Int} {c : Int} {h : Nat} {l : Int} (hP : Pr t o c h l) (hI : SInv t) (hL : t.L ≤ 50000) : Bd (o, c, h, l) 100000 :=
  ⟨hP.wr.c0, hP.wr.c1, hP.wr.l0, hP.wr.l1, hP.wr.h1, by have := hP.wr.len; show o.length + h ≤ 100000; omega⟩
def LoopPost (l0 : List Int) (l1 : List S41) (B : Nat) (w : World) (g : Nat) (mv : Value) (s9 : Value) (wc : World) : Prop :=
  Below B w wc ∧ ((s9 = .bool true ∧ run (st0 (freshC l0)) (pairs l1) = none) ∨ (s9 = .bool false ∧ ∃ t ov o c h l, run (st0 (freshC l0)) (pairs l1) = some t ∧ IsE wc g mv t.R ov o c h l ∧ Pr t o c h l))
theorem pairs_take (l : List S41) {k : Nat} (hk : k < l.length) : pairs (l.take (k + 1)) = pairs (l.take k) ++ [((rd_T41 l k).f0, (rd_T41 l k).f1)] := by
  unfold pairs
  rw [List.take_succ_eq_append_getElem hk, List.map_append]
  have : rd_T41 l k = l[k] := by unfold rd_T41; rw [Int.toNat_natCast, List.getD_eq_getElem?_getD, List.getElem?_eq_getElem hk]; rfl
  rw [this]
  rfl
theorem pairs_length (l : List S41) : (pairs l).length = l.length := by unfold pairs; rw [List.length_map]
theorem run_take_none {t : St} {l : List S41} {k : Nat} (hk : k < l.length) {u : St} (h : run t (pairs (l.take k)) = some u) (hs : CM.step u ((rd_T41 l k).f0, (rd_T41 l k).f1) = none) : run t (pairs l) = none := by
  have e : pairs l = pairs (l.take (k + 1)) ++ pairs (l.drop (k + 1)) := by unfold pairs; rw [← List.map_append, List.take_append_drop]
  rw [e, run_append, pairs_take l hk, run_snoc, h, Option.bind_some, hs]
  rfl
set_option maxHeartbeats 4000000 in
set_option maxRecDepth 100000 in
theorem enc12 (w : World) (A0 A1 : Option Addr) (l0 : List Int) (l1 : List S41) (c0 c1 : Nat) (hr0 : Kd.C (Kd.int .i64) w A0 l0.length l0) (hr1 : Kd.C k41 w A1 l1.length l1) (hc0 : l0.length ≤ c0) (hl0 : l0.length ≤ 1000) (hl1 : l1.length ≤ 1000) (hw0 : ∀ n ∈ l0, -9223372036854775808 ≤ n ∧ n < 9223372036854775808) (hw1 : ∀ x ∈ l1, wfC x) :
    Calls Try.prog 12 #[.slice A0 l0.length c0, .slice A1 l1.length c1] w fun e w' => ∃ v, e = .returned (.tuple #[v, .int .i64 (encS l0 l1).2]) ∧ Kd.R (Kd.int .u8) 5 w' w.heap.size (fun _ => True) v (encS l0 l1).1 ∧ Below w.heap.size w w' := by
  go_enter Try.func12, Try.ntmps12
  go_wp2
  apply scope_body
  go_wp2_with fail
  refine (begun22 _ _ _ _ hr0 hl0 hw0).mono ?_
  rintro e w1 hb
  rcases hb with ⟨hS, mv, ps, rfl, hM, hB⟩ | ⟨hS, A2, n2, c2, rfl, hB⟩
  · obtain ⟨A2, c2, rfl⟩ := hM.slice
    have hMs := fresh_mods hS.2
    have hfl : (freshC l0).length ≤ 1000 := by unfold freshC; rw [List.length_map]; exact hl0
    go_wp2_with fail
    have hBa := hB.alloc hB.size (.cells #[.slice A2 (freshC l0).length c2, .int .u32 4294967295] 54 (0, 0))
    have hMa : IsMs (w1.alloc (.cells #[.slice A2 (freshC l0).length c2, .int .u32 4294967295] 54 (0, 0))) w.heap.size (.slice A2 (freshC l0).length c2) ps (freshC l0) := CW.IsMs.ft hM ((Ft.refl 0 [] w1).alloc _) (by decide) (by decide) (by decide)
    generalize w1.alloc (.cells #[.slice A2 (freshC l0).length c2, .int .u32 4294967295] 54 (0, 0)) = w2 at *
    refine (ready23 _ _ _ ⟨_, _, _, rfl⟩).mono ?_
    rintro e w3 ⟨g, rfl, hg, hE, hB3⟩
    have hM3 := hMa.below hB3
    have hBw := hBa.trans (hB3.mono hBa.size)
    have hgB : w.heap.size ≤ g := Nat.le_trans hBa.size hg
    clear hM hB hBa hMa hB3 hg
    go_wp2_with fail
    go_step3
    go_upto_block 0 with fail
    obtain ⟨B, hBB⟩ : ∃ B, B = w.heap.size := ⟨_, rfl⟩
    rw [← hBB] at hM3 hgB hBw
    generalize hmv : Value.slice A2 (freshC l0).length c2 = mv at *
    have hBle : B ≤ w.heap.size := by omega
    have hBge : w.heap.size ≤ B := by omega
    have HR1 := Lib.hid hr1
    have HBB := Lib.hid hBB
    have HW1 := Lib.hid hw1
    have HS := Lib.hid hS
    have HMV := Lib.hid hmv
    have HR0 := Lib.hid hr0
    clear hr1 hr0 hw0 hw1 hBB hS hmv
    go_cut [9] (fun s9 wc => LoopPost l0 l1 B w g mv s9 wc)
    case first =>
      go_wp2_with fail
      go_loopw [27, 9] (fun v v9 wr => ∃ i : Int, v = .int .i64 i ∧ 0 ≤ i ∧ i ≤ l1.length ∧ v9 = .bool false ∧ Below B w wr ∧ ∃ t ov o c h l, Hid (run (st0 (freshC l0)) (pairs (l1.take i.toNat)) = some t) ∧ IsE wr g mv t.R ov o c h l ∧ IsMs wr B mv ps t.C ∧ Pr t o c h l) (fun v _ _ => l1.length - (intOf v).toNat)
      case atStart => exact ⟨0, rfl, by omega, by omega, rfl, hBw, st0 (freshC l0), _, _, _, _, _, Lib.hid (by rfl), hE, hM3, st0_pr _⟩
      case round =>
        clear hE hM3 hBw
        obtain ⟨i, rfl, hi0, hi1, rfl, hBw, t, ov, o, c, h, l, hrun, hE, hM3, hPr⟩ := hrel
        by_cases hlt : i < l1.length
        · have dl : decide (i < (l1.length : Int)) = true := decide_eq_true hlt
          have hBw' : Below w.heap.size w wr := by rw [← HBB.out]; exact hBw
          obtain ⟨ad1, e1, y0, y1⟩ := at_T41 (Kd.C_below HR1.out hBw') i hi0 hlt
          cases e1
          have p1 := eq_true hi0
          have p2 := eq_true hlt
          have hI := (run_within _ (st0_inv hMs) hrun.out).inv
          have hCl : t.C.length ≤ 1000 := by
            have := congrArg List.length (run_lens _ hrun.out)
            rw [List.length_map, List.length_map] at this
            rw [this]
            exact hfl
          have hLb := run_L _ (st0_inv hMs) hrun.out
          rw [pairs_length, List.length_take] at hLb
          have hL5 : (st0 (freshC l0)).L = 5 := rfl
          have hlen := hPr.wr.len
          have hoh : o.length + h ≤ 100000 := by omega
          have htk := pairs_take l1 (k := i.toNat) (by omega)
          have hnone := fun hs => run_take_none (l := l1) (k := i.toNat) (by omega) hrun.out hs
          rw [show ((i.toNat : Nat) : Int) = i by omega] at htk hnone
          have hwf : wfC (rd_T41 l1 i) := HW1.out _ (by unfold rd_T41; rw [List.getD_eq_getElem?_getD, List.getElem?_eq_getElem (by omega)]; exact List.getElem_mem _)
          have htn : (i + 1).toNat = i.toNat + 1 := by omega
          generalize hf0 : (rd_T41 l1 i).f0 = f0 at *
          generalize hf1 : (rd_T41 l1 i).f1 = f1 at *
          have hk0 : -9223372036854775808 ≤ f0 ∧ f0 < 9223372036854775808 := by rw [← hf0]; exact ⟨hwf.1, hwf.2.1⟩
          have HTK := Lib.hid htk
          have HNONE := Lib.hid hnone
          have HTN := Lib.hid htn
          have HI := Lib.hid hI
          have hBa := hBw.alloc (Nat.le_trans hBle hBw.size) (.cells #[.int .i64 f0, .int .i64 f1] 41 (0, 0))
          have hEa := hE.alloc (.cells #[.int .i64 f0, .int .i64 f1] 41 (0, 0))
          have hMa : IsMs (wr.alloc (.cells #[.int .i64 f0, .int .i64 f1] 41 (0, 0))) B mv ps t.C := CW.IsMs.ft hM3 ((Ft.refl B [] wr).alloc _) (by decide) (by decide) (by decide)
          have hsum := hPr.sum
          have hl00 := hPr.wr.l0
          have hc00 := hPr.wr.c0
          have hc01 := hPr.wr.c1
          have hh1 := hPr.wr.h1
          clear hf0 hf1 hwf htk hnone htn hI hE hM3 hlen hLb hL5
          cases hsh : share t.C f0 f1 with
          | none =>
            have HSH := Lib.hid hsh
            clear hsh
            go_wp2_with fail
            refine (code_none _ g B mv ov t.R c l o h ps t.C f0 f1 hk0.1 hk0.2 hEa hMa HI.out.mods hCl HSH.out).mono ?_
            rintro e w5 ⟨rfl, hb5⟩
            go_wp2_with fail
            go_meet
            case rel => exact ⟨hBa.trans (hb5.mono (Nat.le_trans hBle hBa.size)), .inl ⟨rfl, HNONE.out (step_none HSH.out)⟩⟩
          | some p =>
            obtain ⟨a, n⟩ := p
            obtain ⟨u, hu⟩ := step_of_share (x := (f0, f1)) hsh
            obtain ⟨a2, n2, hst⟩ := step_some HI.out hu
            have han : a2 = a ∧ n2 = n := by
              have := hst.sh
              rw [hsh] at this
              injection this with this
              injection this with e1 e2
              exact ⟨e1.symm, e2.symm⟩
            obtain ⟨rfl, rfl⟩ := han
            have hPu := hPr.step HI.out hst _ rfl
            have hr := hst.r
            have hl := hst.l
            have hc := hst.c
            have HSH := Lib.hid hsh
            have HU := Lib.hid hu
            have HPU := Lib.hid hPu
            have HR := Lib.hid hr
            have HL := Lib.hid hl
            have HC := Lib.hid hc
            have hR0 := HI.out.r0
            have hR1 := HI.out.r1
            clear hsh hu hst hPu hr hl hc
            go_wp2_with fail
            refine (code_some _ g B mv ov t.R c l o h ps t.C f0 f1 a2 n2 (t.R / whole t.C f0) _ hk0.1 hk0.2 hEa hMa HI.out.mods hCl HSH.out hgB rfl rfl hR0 hR1 hl00 hsum hc00 hc01 hh1 hoh).mono ?_
            rintro e w5 ⟨rfl, ov5, hE5, hM5, hF5⟩
            go_wp2_with fail
            go_roundw
            case rel =>
              have hbb : Below B w w5 := hBa.trans (hF5.below (by have := hBa.size; omega))
              refine ⟨i + 1, rfl, by omega, by omega, rfl, hbb, u, ov5, _, _, _, _, Lib.hid ?_, ?_, ?_, HPU.out⟩
              · rw [HTN.out, HTK.out, run_snoc, hrun.out]
                exact HU.out
              · rw [HR.out, show u.L - t.L = many (t.R / whole t.C f0 * n2) by have hh := HL.out; change u.L = t.L + many (t.R / whole t.C f0 * n2) at hh; omega]
                exact hE5
              · rw [HC.out]
                exact hM5
            case measure => simp [intOf]; omega
        · obtain rfl : i = l1.length := by omega
          go_wp2_with fail
          go_meet
          case rel =>
            have hr := hrun.out
            rw [Int.toNat_natCast, List.take_length] at hr
            exact ⟨hBw, .inr ⟨rfl, t, ov, o, c, h, l, hr, hE, hPr⟩⟩
    case rest =>
      clear hE hM3 hBw
      obtain ⟨hBw, hcut | hcut⟩ := hcut
      · obtain ⟨rfl, hnone⟩ := hcut
        have HN := Lib.hid hnone
        clear hnone
        go_wp2_with fail
        go_loopw [45, 9] (fun v v9 wr => ∃ i : Int, v = .int .i64 i ∧ 0 ≤ i ∧ i ≤ l1.length ∧ v9 = .bool true ∧ Below B w wr) (fun v _ _ => l1.length - (intOf v).toNat)
        case atStart => exact ⟨0, rfl, by omega, by omega, rfl, hBw⟩
        case round =>
          clear hBw
          obtain ⟨i, rfl, hi0, hi1, rfl, hBw⟩ := hrel
          by_cases hlt : i < l1.length
          · have dl : decide (i < (l1.length : Int)) = true := decide_eq_true hlt
            have hBw' : Below w.heap.size w wr := by rw [← HBB.out]; exact hBw
            obtain ⟨ad1, e1, y0, y1⟩ := at_T41 (Kd.C_below HR1.out hBw') i hi0 hlt
            cases e1
            have p1 := eq_true hi0
            have p2 := eq_true hlt
            go_wp2_with fail
            go_roundw
            case rel => exact ⟨i + 1, rfl, by omega, by omega, rfl, hBw.alloc (Nat.le_trans hBle hBw.size) _⟩
            case measure => simp [intOf]; omega
          · obtain rfl : i = l1.length := by omega
            go_wp2_with fail
            go_ret2
            have he : encS l0 l1 = ([], 2) := by unfold encS; rw [if_pos HS.out, HN.out]
            rw [he]
            exact ⟨_, rfl, Kd.R_nil _ _ _ _ _, by rw [← HBB.out]; exact hBw⟩
      · obtain ⟨rfl, t, ov, o, c, h, l, hrun, hE, hPr⟩ := hcut
        have HRUN := Lib.hid hrun
        have HKN := Lib.hid (known_all hrun)
        clear hrun
        go_wp2_with fail
        go_loopw [45, 9] (fun v v9 wr => ∃ i : Int, v = .int .i64 i ∧ 0 ≤ i ∧ i ≤ l1.length ∧ v9 = .bool false ∧ Below B w wr ∧ IsE wr g mv t.R ov o c h l) (fun v _ _ => l1.length - (intOf v).toNat)
        case atStart => exact ⟨0, rfl, by omega, by omega, rfl, hBw, hE⟩
        case round =>
          clear hBw hE
          obtain ⟨i, rfl, hi0, hi1, rfl, hBw, hE⟩ := hrel
          by_cases hlt : i < l1.length
          · have dl : decide (i < (l1.length : Int)) = true := decide_eq_true hlt
            have hBw' : Below w.heap.size w wr := by rw [← HBB.out]; exact hBw
            obtain ⟨ad1, e1, y0, y1⟩ := at_T41 (Kd.C_below HR1.out hBw') i hi0 hlt
            cases e1
            have p1 := eq_true hi0
            have p2 := eq_true hlt
            have hkn : coder_known.f l0 (rd_T41 l1 i).f0 (rd_T41 l1 i).f1 = some true := HKN.out _ (by unfold rd_T41; rw [List.getD_eq_getElem?_getD, List.getElem?_eq_getElem (by omega)]; exact List.getElem_mem _)
            generalize (rd_T41 l1 i).f0 = f0 at *
            generalize (rd_T41 l1 i).f1 = f1 at *
            have HK := Lib.hid hkn
            have hBa := hBw.alloc (Nat.le_trans hBle hBw.size) (.cells #[.int .i64 f0, .int .i64 f1] 41 (0, 0))
            have hEa := hE.alloc (.cells #[.int .i64 f0, .int .i64 f1] 41 (0, 0))
            have hr0a := Lib.hid (Kd.C_alloc (Kd.C_below HR0.out hBw') (.cells #[.int .i64 f0, .int .i64 f1] 41 (0, 0)))
            clear hkn hBw' hBw hE
            go_wp2_with fail
            refine (coder_known.calls A0 c0 l0 f0 f1 true _ hr0a.out hc0 HK.out).mono ?_
            rintro e w5 ⟨rfl, hb5⟩
            go_wp2_with fail
            go_roundw
            case rel => exact ⟨i + 1, rfl, by omega, by omega, rfl, hBa.trans (hb5.mono (Nat.le_trans hBle hBa.size)), hEa.below hb5⟩
            case measure => simp [intOf]; omega
          · obtain rfl : i = l1.length := by omega
            have hIn := run_within _ (st0_inv hMs) HRUN.out
            have hLb := run_L _ (st0_inv hMs) HRUN.out
            rw [pairs_length] at hLb
            have hbd := bd_of hPr hIn.inv (by have : (st0 (freshC l0)).L = 5 := rfl; omega)
            go_wp2_with fail
            refine (end26 _ g mv ov t.R c l o h hE hbd).mono ?_
            rintro e w6 ⟨ov', rfl, hR, hF⟩
            go_wp2_with fail
            go_ret2
            have he : encS l0 l1 = (digs t.L t.V, 0) := by unfold encS; rw [if_pos HS.out, HRUN.out]
            rw [he]
            refine ⟨ov', rfl, ?_, ?_⟩
            · rw [hPr.wr.ends] at hR
              exact Kd.R_lower hR (by omega)
            · rw [← HBB.out]
              exact hBw.trans (((hF.mono hgB (fun _ h => h)).below (by have := hBw.size; omega)))
  · go_wp2_with fail
    go_ret2
    have he : encS l0 l1 = ([], 2) := if_neg hS
    rw [he]
    exact ⟨_, rfl, Kd.R_nil _ _ _ _ _, hB.alloc hB.size _⟩
end Go.Proofs.Ythegimfokcdehaa.CW
