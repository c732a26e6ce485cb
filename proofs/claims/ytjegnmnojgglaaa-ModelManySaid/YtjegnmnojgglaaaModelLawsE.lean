/- The walk of the statement ModelMany. -/
import Derived.Test.YtjegnmnojgglaaaModelLawsA
import Derived.Laws.AppendOwn
namespace Go.Proofs.Ytjegnmnojgglaaa.MW
open Go Go.RowKit Go.Proofs.Ytjegnmnojgglaaa.PMod Go.Proofs.YtjegnmnojgglaaaW.PrintWords Go.Proofs.YtjegnmnojgglaaaW.PrintLast Go.Proofs.YtjegnmnojgglaaaW.PrintMore
set_option linter.unusedVariables false
set_option linter.unusedSimpArgs false

/-- A row of the call's own, read. -/
theorem own_form {w : World} {B n : Nat} {v : Value} {xs : List Int} (h : w.ownsRow B 3 1 v n (xs.map (Value.int .i64))) : n = xs.length ∧ ∃ A c, v = .slice A n c ∧ (∀ i, i < xs.length → ∃ a, A = some a ∧ B ≤ a.block ∧ a.block < w.heap.size ∧ w.cell? (a.add i) = some (.int .i64 (xs.getD i 0))) := by
  have hl : n = xs.length := by have := h.1; simp at this; omega
  refine ⟨hl, ?_⟩
  rcases h.2 with ⟨rfl, hn⟩ | ⟨g, cap, cur, rfl, hb, hh, _⟩
  · exact ⟨none, 0, by rw [hn], fun i hi => by omega⟩
  · refine ⟨_, cap, rfl, fun i hi => ⟨_, rfl, hb, ?_, ?_⟩⟩
    · rcases Nat.lt_or_ge g w.heap.size with hlt | hge
      · exact hlt
      · rw [Array.getElem?_eq_none hge] at hh; cases hh
    · refine h.cells (g := g) (by simp [Value.ownBlock]) i _ ?_
      simp [List.getD_eq_getElem?_getD, List.getElem?_eq_getElem hi]

theorem own_only {w w' : World} {B n : Nat} {v : Value} {xs : List Value} {bp bs : Nat} (h : w.ownsRow B 3 1 v n xs) (ho : Only w w' bp bs) (h1 : bp < B) (h2 : bs < B) : w'.ownsRow B 3 1 v n xs := by
  refine ⟨h.1, ?_⟩
  rcases h.2 with hnil | ⟨g, cap, cur, e, hb, hh, hr⟩
  · exact .inl hnil
  · have hg : g < w.heap.size := by
      rcases Nat.lt_or_ge g w.heap.size with hlt | hge
      · exact hlt
      · rw [Array.getElem?_eq_none hge] at hh; cases hh
    exact .inr ⟨g, cap, cur, e, hb, (ho.block g hg (by omega) (by omega)).trans hh, hr⟩

theorem share_w (w : World) (bp bs : Nat) (cs : List Int) (n : Nat) (h : IsM w bp bs cs cs.sum) (hok : Ok n cs) (s : Nat) (hs : s < n) (S a : Int) (hS : (cs.take s).sum = S) (ha : cs.getD s 0 = a) :
    Calls Try.prog 14 #[.pointer (some ⟨bp, 0, none⟩), .int .i64 s] w fun e w' => e = .returned (.tuple #[.int .i64 S, .int .i64 a, .int .i64 0]) ∧ ∃ m, w' = w.drewN m := by
  subst hS
  subst ha
  exact share_ok w bp bs cs _ h hok.inv s (by rw [hok.2.2.1]; exact hs)

theorem one_cell (w : World) (x : Int) : ∀ j u, [Value.int .i64 x][j]? = some u → (w.alloc (.cells #[.int .i64 x] 3)).cell? ((⟨w.heap.size, 0, none⟩ : Addr).add j) = some u := by
  intro j u hu
  obtain rfl : j = 0 := by
    rcases j with _ | j
    · rfl
    · simp at hu
  simp only [List.getElem?_cons_zero, Option.some.injEq] at hu
  subst hu
  exact alloc_cell0 _ _ _
theorem one_one (x : Int) : ∀ u ∈ [Value.int .i64 x], u.oneCell' = true := by
  intro u hu
  rw [List.mem_singleton] at hu
  subst hu
  rfl
theorem grown_M {w w' : World} {bp bs : Nat} {cs : List Int} {tot : Int} {row : Option Nat} (h : IsM w bp bs cs tot) (hg : w.grownBy w' row) (h1 : ∀ j, row = some j → bp ≠ j) (h2 : ∀ j, row = some j → bs ≠ j) : IsM w' bp bs cs tot :=
  ⟨(hg.block bp h.head.lt (fun e => h1 bp e.symm rfl)).trans h.head, (hg.block bs h.row.lt (fun e => h2 bs e.symm rfl)).trans h.row⟩

set_option maxHeartbeats 2000000 in
set_option maxRecDepth 100000 in
theorem many_row (w : World) (n0 : Int) (h0 : (Lit.int .u8 n0).wf = true) (L : Option Addr) (l : List Int) (lc : Nat) (hm : l.length ≤ maxLen) (hb : l.length * 2 ≤ 140737488351232) (hr : RdU w .u16 L l) (hw : ∀ x ∈ l, (Lit.int .u16 x).wf = true) (hc : l.length ≤ lc) (bad : Int) (hbad : (Lit.int .i64 bad).wf = true) :
    Calls Try.prog 5 #[.int .u8 n0, .slice L l.length lc, .int .i64 bad] w fun e w' => e = .returned (.bool true) ∧ Below w.heap.size w w' := by
  have h0 := wfu8 h0
  have hw : ∀ x ∈ l, 0 ≤ x ∧ x < 65536 := fun x hx => wfu16 (hw x hx)
  obtain ⟨m, rfl⟩ := Int.eq_ofNat_of_zero_le h0.1
  have hm1 : m < 256 := by omega
  clear h0 hm hc hbad
  have HR := Lib.hid hr
  have HW := Lib.hid hw
  clear hr hw
  by_cases hlen : 900 < l.length
  · have d1 : decide (900 < (l.length : Int)) = true := decide_eq_true (by omega)
    have d2 : decide (900 < l.length) = true := decide_eq_true hlen
    go_enter Try.func5, Try.ntmps5
    go_wp2_with (go_at_call 10; refine (known_calls _).mono ?_; rintro e w' ⟨rfl, hb⟩)
    go_ret
    exact ⟨rfl, by assumption⟩
  · have d1 : decide (900 < (l.length : Int)) = false := decide_eq_false (by omega)
    have d2 : decide (900 < l.length) = false := decide_eq_false hlen
    have hok := cur_ok (m + 1) (by omega) (by omega) l
    have hgood := syms_good (m + 1) (by omega) l
    have hone := ones_ok (m + 1) (by omega) (by omega)
    have HOK := Lib.hid hok
    have HG := Lib.hid hgood
    have HONE := Lib.hid hone
    have hn0 : ¬ (1 + (m : Int)) = 0 := by omega
    obtain ⟨i0, hi, hz0, hz1, hz2⟩ := info_parts info3
    have HZ := Lib.hid hz0
    have HZ1 := Lib.hid hz1
    have HZ2 := Lib.hid hz2
    have HI := Lib.hid hi
    clear hok hgood hone hz0 hz1 hz2 hi
    go_enter Try.func5, Try.ntmps5
    go_wp2_with fail
    refine (counted_z _ _ (m + 1) (by omega) (by omega) (by omega) L l lc (by omega) HR.out HW.out).mono ?_
    rintro e w1 ⟨bp, bs, A, cc, rfl, hcc, hm, hrd, hp1, hp2, hb⟩
    have hbp := hm.out.head.lt
    have hbs := hm.out.row.lt
    go_wp2_with fail
    refine (calls_of_args (show _ = #[.int .i64 ((m + 1 : Nat) : Int)] by congr 1; congr 1; congr 1; push_cast; omega) (new_ok _ (m + 1) (by omega) (by omega))).mono ?_
    rintro e w2 ⟨bq, bt, rfl, hq, hq1, hq2, hb2⟩
    have hqp := hq.head.lt
    have hqs := hq.row.lt
    have HM2 : Hid (IsM w2 bp bs (cur (m + 1) l) (cur (m + 1) l).sum) := Lib.hid (hm.out.below hb2)
    have HQ2 : Hid (IsM w2 bq bt (List.replicate (m + 1) 1) (List.replicate (m + 1) 1).sum) := Lib.hid (by rw [HONE.out.2]; exact hq)
    have hbw2 : Below w.heap.size w w2 := hb.out.trans (hb2.mono hb.out.size)
    have HB2 := Lib.hid hbw2
    have hsz2 : w.heap.size ≤ w2.heap.size := hbw2.size
    have hsz1 : w1.heap.size ≤ w2.heap.size := hb2.size
    clear hq hb2 hbw2 hm hrd hb
    go_wp2_with fail
    go_loopw [12, 13] (fun v i wr => ∃ k : Nat, k ≤ l.length ∧ i = .int .i64 k ∧ Hid (wr.ownsRow w2.heap.size 3 1 v k ((syms (m + 1) (l.take k)).map (Value.int .i64))) ∧ Hid (Below w2.heap.size w2 wr)) (fun _ i _ => l.length - (intOf i).toNat)
    case atStart => exact ⟨0, Nat.zero_le _, rfl, Lib.hid ⟨by simp [syms], .inl ⟨rfl, rfl⟩⟩, Lib.hid (Below.refl _ _)⟩
    case round =>
      obtain ⟨k, hk, rfl, hown, hbr⟩ := hrel
      have hbwr : Below w.heap.size w wr := HB2.out.trans (hbr.out.mono hsz2)
      by_cases hlt : k < l.length
      · obtain ⟨a, rfl, ha, hcell⟩ := (HR.out.below hbwr) k hlt
        have hx := HW.out l[k] (List.getElem_mem hlt)
        have hg : l.getD k 0 = l[k] := by rw [List.getD_eq_getElem?_getD, List.getElem?_eq_getElem hlt]; rfl
        rw [← hg] at hx
        obtain ⟨hx0, hx1⟩ := hx
        have hsucc : (syms (m + 1) (l.take (k + 1))).map (Value.int .i64) = (syms (m + 1) (l.take k)).map (Value.int .i64) ++ [.int .i64 (l.getD k 0 % (1 + (m : Int)))] := by
          unfold syms
          rw [List.take_succ_eq_append_getElem hlt, List.map_append, List.map_append, hg, show ((m + 1 : Nat) : Int) = 1 + (m : Int) by omega]
          rfl
        have HS := Lib.hid hsucc
        clear hsucc hg hbwr
        generalize l.getD k 0 = x at *
        have hy0 : 0 ≤ x % (1 + (m : Int)) := Int.emod_nonneg _ (by omega)
        have hy1 : x % (1 + (m : Int)) < 1 + (m : Int) := Int.emod_lt_of_pos _ (by omega)
        have hsr : w2.heap.size ≤ wr.heap.size := hbr.out.size
        go_wp2_with (first
          | (at_builtin
             refine wpList_append_own _ rfl (.tmp 47) (.tmp 55) 25 rfl w2.heap.size 3 i0 (.int .i64 0) 1 8 Try.underlying25 HI.out HZ.out HZ1.out HZ2.out rfl (by decide) _ k _ rfl (hown.out.alloc _) ⟨wr.heap.size, 0, none⟩ 1 1 [.int .i64 (x % (1 + (m : Int)))] rfl rfl ?c1 ?c2 ?c3 ?c4 ?c5 ?_
             rotate_left 5
             intro v' w' hown' hgrow _))
        case c1 =>
          intro j u hu
          obtain rfl : j = 0 := by
            rcases j with _ | j
            · rfl
            · simp at hu
          simp only [List.getElem?_cons_zero, Option.some.injEq] at hu
          subst hu
          exact alloc_cell0 _ _ _
        case c2 => intro u hu; rw [List.mem_singleton] at hu; subst hu; rfl
        case c3 => simp only [maxLen]; omega
        case c4 => omega
        case c5 => simp; omega
        have hown2 : w'.ownsRow w2.heap.size 3 1 v' (k + 1) ((syms (m + 1) (l.take (k + 1))).map (Value.int .i64)) := by rw [HS.out]; exact hown'
        have hb' : Below w2.heap.size w2 w' := (hbr.out.alloc hsr _).grown hgrow (by simp; omega) (fun j hj => (hown.out.lt j hj).1)
        have HO' := Lib.hid hown2
        have HB' := Lib.hid hb'
        clear hown' hgrow hown2 hb'
        go_wp2_with fail
        go_roundw
        case rel => exact ⟨k + 1, by omega, by go_num, HO', HB'⟩
        case measure => simp [intOf]; omega
      · obtain rfl : k = l.length := by omega
        have hown' := hown.out
        rw [List.take_length] at hown'
        obtain ⟨hle, A2, c2, rfl, hcells⟩ := own_form hown'
        have HO := Lib.hid hown'
        have HC := Lib.hid hcells
        have HLE := Lib.hid hle
        clear hown' hcells hle hown
        have hmr : Hid (IsM wr bp bs (cur (m + 1) l) (cur (m + 1) l).sum) := Lib.hid (HM2.out.below hbr.out)
        have hqr : Hid (IsM wr bq bt (List.replicate (m + 1) 1) (List.replicate (m + 1) 1).sum) := Lib.hid (HQ2.out.below hbr.out)
        have hsr : w2.heap.size ≤ wr.heap.size := hbr.out.size
        have hbwr' := Lib.hid hbwr
        clear hbwr
        clear HM2 HQ2 hbr
        -- the first count
        go_wp2_with fail
        refine (calls_of_args (show _ = #[.pointer (some ⟨bq, 0, none⟩), .slice A2 (syms (m + 1) l).length c2] by rw [← HLE.out]) (count_ok wr bq bt (List.replicate (m + 1) 1) (m + 1) hqr.out HONE.out.1 A2 (syms (m + 1) l) c2 (by rw [← HLE.out]; simp only [maxLen]; omega) (fun i hi => by
          obtain ⟨a, e1, e2, e3, e4⟩ := HC.out i hi
          exact ⟨a, e1, e3, by omega, by omega, e4⟩) HG.out)).mono ?_
        rintro e w3 ⟨rfl, hq3, ho3⟩
        have HQ3 : Hid (IsM w3 bq bt (cur (m + 1) l) (cur (m + 1) l).sum) := Lib.hid hq3
        have HO3 := Lib.hid (own_only HO.out ho3 hqp hqs)
        have HB3 : Hid (Below w.heap.size w w3) := Lib.hid (hbwr'.out.trans (ho3.below (by omega) (by omega) (by have := hbwr'.out.size; omega)))
        have hne1 : bp ≠ bq := by omega
        have hne2 : bp ≠ bt := by omega
        have hne3 : bs ≠ bq := by omega
        have hne4 : bs ≠ bt := by omega
        have HM3 : Hid (IsM w3 bp bs (cur (m + 1) l) (cur (m + 1) l).sum) := Lib.hid ⟨(ho3.block bp hmr.out.head.lt hne1 hne2).trans hmr.out.head, (ho3.block bs hmr.out.row.lt hne3 hne4).trans hmr.out.row⟩
        have hs3 : w2.heap.size ≤ w3.heap.size := by have := ho3.size; omega
        clear hq3 ho3 hqr hmr HO HC hbwr'
        -- one more: none, or one
        have hx0 : ∃ b1 b2 : Bool, decide (bad < 0) = b1 ∧ decide (1 + (m : Int) ≤ bad) = b2 ∧ ((b1 = true ∨ b2 = true) → bad < 0 ∨ ((m + 1 : Nat) : Int) ≤ bad) := by
          refine ⟨_, _, rfl, rfl, ?_⟩
          intro h
          rcases h with h | h
          · exact .inl (of_decide_eq_true h)
          · have := of_decide_eq_true h; right; omega
        obtain ⟨b1, b2, d7, d8, hbb⟩ := hx0
        have HBB := Lib.hid hbb
        clear hbb
        cases b1 <;> cases b2
        all_goals
          go_wp2_with (first
            | (at_builtin
               refine wpList_append_own _ rfl (.tmp 60) (.tmp 62) 25 rfl w2.heap.size 3 i0 (.int .i64 0) 1 8 Try.underlying25 HI.out HZ.out HZ1.out HZ2.out rfl (by decide) _ l.length _ rfl (HO3.out.alloc _) ⟨w3.heap.size, 0, none⟩ 1 1 [.int .i64 bad] rfl rfl (one_cell w3 bad) (one_one bad) (by simp only [maxLen]; omega) (by omega) (by simp; omega) ?_
               intro v' w4 hown4 hgrow4 _
               have hown4' : w4.ownsRow w2.heap.size 3 1 v' (l.length + 1) ((syms (m + 1) l ++ [bad]).map (Value.int .i64)) := by rw [List.map_append]; exact hown4
               have hlt4 := HO3.out.lt
               have HM4 : Hid (IsM w4 bp bs (cur (m + 1) l) (cur (m + 1) l).sum) := Lib.hid (grown_M (HM3.out.alloc _) hgrow4 (fun j hj => by have := (hlt4 j hj).1; omega) (fun j hj => by have := (hlt4 j hj).1; omega))
               have HQ4 : Hid (IsM w4 bq bt (cur (m + 1) l) (cur (m + 1) l).sum) := Lib.hid (grown_M (HQ3.out.alloc _) hgrow4 (fun j hj => by have := (hlt4 j hj).1; omega) (fun j hj => by have := (hlt4 j hj).1; omega))
               have HB4 : Hid (Below w.heap.size w w4) := Lib.hid ((HB3.out.alloc HB3.out.size _).grown hgrow4 (by have := HB3.out.size; simp; omega) (fun j hj => by have := (hlt4 j hj).1; omega))
               obtain ⟨hle4, A4, c4, rfl, hcells4⟩ := own_form hown4'
               have HLE4 := Lib.hid hle4
               have HC4 := Lib.hid hcells4
               clear hown4 hown4' hgrow4 hlt4 hle4 hcells4)
            | (go_at_call 17
               refine (calls_of_args (show _ = #[.pointer (some ⟨bq, 0, none⟩), .slice A4 (syms (m + 1) l ++ [bad]).length c4] by rw [← HLE4.out]) (count_bad w4 bq bt _ _ HQ4.out A4 (syms (m + 1) l ++ [bad]) c4 (by rw [← HLE4.out]; simp only [maxLen]; omega) (fun i hi => by
                 obtain ⟨a, e1, e2, e3, e4⟩ := HC4.out i hi
                 exact ⟨a, e1, e4⟩) ⟨bad, by simp, by rw [HOK.out.2.2.1]; exact HBB.out (by simp)⟩)).mono ?_
               rintro e w5 ⟨rfl, rfl⟩))
          go_loopw [16] (fun i wr => ∃ s : Nat, s ≤ m + 1 ∧ i = .int .i64 s ∧ Hid (IsM wr bp bs (cur (m + 1) l) (cur (m + 1) l).sum) ∧ Hid (IsM wr bq bt (cur (m + 1) l) (cur (m + 1) l).sum) ∧ Hid (Below w.heap.size w wr)) (fun i _ => m + 1 - (intOf i).toNat)
          case atStart => exact ⟨0, by omega, rfl, HM4, HQ4, HB4⟩
          case round =>
            obtain ⟨s, hs, rfl, hm5, hq5, hb5⟩ := hrel
            by_cases hlt : s < m + 1
            · have d9 : decide ((s : Int) < 1 + (m : Int)) = true := decide_eq_true (by omega)
              obtain ⟨S, hS⟩ : ∃ S, ((cur (m + 1) l).take s).sum = S := ⟨_, rfl⟩
              obtain ⟨a, ha⟩ : ∃ a, (cur (m + 1) l).getD s 0 = a := ⟨_, rfl⟩
              have HS := Lib.hid hS
              have HA := Lib.hid ha
              clear hS ha
              go_wp2_with fail
              refine (share_w _ bp bs _ (m + 1) hm5.out HOK.out s hlt S a HS.out HA.out).mono ?_
              rintro e w6 ⟨rfl, dn1, rfl⟩
              go_wp2_with fail
              refine (share_w _ bq bt _ (m + 1) (hq5.out.drewN dn1) HOK.out s hlt S a HS.out HA.out).mono ?_
              rintro e w6 ⟨rfl, dn2, rfl⟩
              go_wp2_with fail
              go_roundw
              case rel => exact ⟨s + 1, by omega, by go_num, Lib.hid (hm5.out.drewN (dn1 + dn2)), Lib.hid (hq5.out.drewN (dn1 + dn2)), Lib.hid (below_dN hb5.out (dn1 + dn2))⟩
              case measure => simp [intOf]; omega
            · obtain rfl : s = m + 1 := by omega
              have d9 : decide (((m + 1 : Nat) : Int) < 1 + (m : Int)) = false := decide_eq_false (by omega)
              go_wp2_with (go_at_call 10; refine (known_calls _).mono ?_; rintro e w7 ⟨rfl, hb7⟩)
              go_ret
              exact ⟨rfl, hb5.out.trans (hb7.mono hb5.out.size)⟩
end Go.Proofs.Ytjegnmnojgglaaa.MW
