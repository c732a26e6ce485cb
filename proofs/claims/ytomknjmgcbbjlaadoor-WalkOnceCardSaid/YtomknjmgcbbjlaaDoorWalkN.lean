import Derived.Test.YtomknjmgcbbjlaaDoorWalkL
import Derived.BigRegion
namespace Go.Proofs.YtomknjmgcbbjlaaDoor.WW
open Go Go.RowKit Go.Maps Go.WideMaps Go.Proofs.YtomknjmgcbbjlaaDoor.Mem Go.Proofs.YtomknjmgcbbjlaaDoor.PWlk Go.Proofs.YtomknjmgcbbjlaaDoorW.PrintWords Go.Proofs.YtomknjmgcbbjlaaDoorW.PrintLast Go.Proofs.YtomknjmgcbbjlaaDoorW.PrintMore
open Go.Proofs.YtomknjmgcbbjlaaDoor.MM (datE edgesU upto edgeL lawE zeroE kE kE_key wfE trs trT Gl datE_snoc)
open Go.Proofs.YtomknjmgcbbjlaaDoor.WP (Wk fnd add)
set_option linter.unusedVariables false
set_option linter.unnecessarySimpa false
set_option linter.unusedSimpArgs false
set_option maxRecDepth 100000
structure Pre (w : World) (base b : Nat) (A0 : Option Addr) (c0 : Nat) (A1 : Option Addr) (c1 : Nat) (P : List S46) (T : List S47) (e m : Nat) (D : DataW Unit) (gm gn : Nat) : Prop where
  blk : Blk w b 96 #[.slice A0 P.length c0, .slice A1 T.length c1, .map (some e), .slice (some ⟨gm, 0, none⟩) T.length T.length, .slice (some ⟨gn, 0, none⟩) P.length P.length, .slice none 0 0, .slice none 0 0, .slice none 0 0, .slice none 0 0, .slice none 0 0]
  bb : base ≤ b
  be : base ≤ e
  bm : base ≤ gm
  bn : base ≤ gn
  map : w.ownsMap Tryd.prog 107 (plainElem Tryd.prog 3) e m D
  met : Blk w gm 4 (madeCells #[.bool false] T.length)
  num : Blk w gn 3 (madeCells #[.int .i64 0] P.length)
theorem Pre.alloc {w : World} {base b : Nat} {A0 : Option Addr} {c0 : Nat} {A1 : Option Addr} {c1 : Nat} {P : List S46} {T : List S47} {e m : Nat} {D : DataW Unit} {gm gn : Nat} (h : Pre w base b A0 c0 A1 c1 P T e m D gm gn) (o : Obj) : Pre (w.alloc o) base b A0 c0 A1 c1 P T e m D gm gn :=
  ⟨h.blk.alloc o, h.bb, h.be, h.bm, h.bn, h.map.alloc o, h.met.alloc o, h.num.alloc o⟩
theorem R_made {α : Type} {enc : α → Value} {h1 : ∀ x, (enc x).oneCell' = true} {e : Nat} {w : World} {base g n : Nat} {ok : Nat → Prop} {z : Value} {xs : List α} (hb : Blk w g e (madeCells #[z] n)) (hg : base ≤ g) (hok : ok g) (hn : n ≤ 1000000) (hl : xs.length = n) (hx : ∀ x ∈ xs, enc x = z) : (Kd.scalar enc h1).R e w base ok (.slice (some ⟨g, 0, none⟩) n n) xs := by
  have hc : (madeCells #[z] n).toList = encs enc xs := by
    apply List.ext_getElem
    · simp [encs, madeCells, hl]
    · intro i h2 h3
      have h4 : i < xs.length := by simpa [encs] using h3
      simp [encs, madeCells, Nat.mod_one, hx _ (List.getElem_mem h4)]
  refine Kd.R_of_own (xs := xs) ⟨by simp [encs], .inr ⟨g, n, _, by rw [hl], hg, hb, by omega, by simp [maxLen]; omega, by simp [madeCells], ?_⟩⟩ (fun k hk => by cases hk; exact hok)
  rw [hl, Nat.mul_one, ← hc]
  exact List.take_of_length_le (by simp [madeCells])
def Kp (w w' : World) (g : Nat) : Prop := w'.heap[g]? = w.heap[g]? ∧ g < w'.heap.size
theorem Kp.alloc {w w' : World} {g : Nat} (h : Kp w w' g) (o : Obj) : Kp w (w'.alloc o) g := ⟨(Below.heap_alloc w' o g h.2).trans h.1, Nat.lt_of_lt_of_le h.2 (by simp)⟩
theorem mapUpdate_step {H : Type} {P : Program} (w : World) {ops : Array Oper} {o : Oper} {a : Act} {Kc : Act → World → Prop} {Q : Exit → Act → World → Prop} {N : Option Tmp}
    (hw : Region.wanted o (yielded ops a.tmps) = true) (hN : o.dst = N) (m x v : Operand) (t : TypeId) (hop : o.op = Op.mapUpdate t m x v)
    (k e : TypeId) (K : Keyed P k) (ht : P.underlying t = some (.map k e)) (R : Value → Option (DataW H × List MemPlace)) (b n : Nat) (D : DataW H)
    (hm : a.eval m = .map (some b)) (hown : w.ownsMap P k R b n D) (hn : n < maxLen) (key val : Value) (kl : Lit) (hx : a.eval x = key) (hv : a.eval v = val) (hkey : keyOf P k key = some kl)
    (d : DataW H) (ps : List MemPlace) (hval : R val = some (d, ps))
    (h : ∀ w', w'.ownsMap P k R b (n + 1) (D.put kl d) → w.grownBy w' (some b) → Kc (a.put N undef) w') :
    if Region.wanted o (yielded ops a.tmps) = true then Oper.wp P o a w Kc Q else Kc (a.put N undef) w := by
  rw [if_pos hw]
  obtain ⟨w', hrun, r1, r2⟩ := hown.update K ht hn hkey hval
  unfold Oper.wp
  simp [execOp, hop, hm, hx, hv, hrun, Result.andThen]
  have h9 := h w' r1 r2
  rw [← hN] at h9
  unfold Oper.upon
  exact h9
set_option maxHeartbeats 1000000 in
theorem begun77 (P : List S46) (T : List S47) (r : Int) (ht : MR.Told P T r) (A0 : Option Addr) (c0 : Nat) (A1 : Option Addr) (c1 : Nat) (w : World) (hr0 : Kd.C k46 w A0 P.length P) (hc0 : P.length ≤ c0) (hr1 : Kd.C k47 w A1 T.length T) (hc1 : T.length ≤ c1) (hG : Gl w) :
    Calls Tryd.prog 77 #[.agg #[.slice A0 P.length c0, .slice A1 T.length c1]] w fun en w' => (r ≠ 0 ∧ en = .returned (.tuple #[.pointer none, .int .i64 r]) ∧ Below w.heap.size w w') ∨ (r = 0 ∧ ∃ b, en = .returned (.tuple #[.pointer (some ⟨b, 0, none⟩), .int .i64 0]) ∧ ∃ e, At w b A0 c0 A1 c1 P T e w' WP.init) := by
  have hb := (Below.refl w.heap.size w).alloc (Nat.le_refl _) (.cells #[.slice A0 P.length c0, .slice A1 T.length c1] 25 (0, 0))
  have hm := Blk.here w 25 #[.slice A0 P.length c0, .slice A1 T.length c1]
  have hck := Lib.hid (MC.check28 P T r ht A0 c0 A1 c1 (w.alloc (.cells #[.slice A0 P.length c0, .slice A1 T.length c1] 25 (0, 0))) (Kd.C_below hr0 hb) hc0 (Kd.C_below hr1 hb) hc1 (hG.alloc _))
  have x0 : (w.alloc (.cells #[.slice A0 P.length c0, .slice A1 T.length c1] 25 (0, 0))).cell? ⟨w.heap.size, 0, none⟩ = some (.slice A0 P.length c0) := hm.cell 0
  have x1 : (w.alloc (.cells #[.slice A0 P.length c0, .slice A1 T.length c1] 25 (0, 0))).cell? ⟨w.heap.size, 1, none⟩ = some (.slice A1 T.length c1) := hm.cell 1
  have HT := Lib.hid ht
  clear ht
  go_enter Tryd.func77, Tryd.ntmps77
  go_upto_region 2 with (go_at_call 54; refine hck.out.mono ?_; rintro en w2 ⟨rfl, hb2⟩)
  have hb3 : Below w.heap.size w w2 := hb.trans (hb2.mono (by simp))
  have hm3 := hm.below hb2
  have hG3 := (hG.alloc (.cells #[.slice A0 P.length c0, .slice A1 T.length c1] 25 (0, 0))).below hb2
  replace hG3 := Lib.hid hG3
  clear hck hb hb2 hm x0 x1
  generalize hgb : w.heap.size = gb at *
  replace hgb := Lib.hid hgb
  have HM := Lib.hid hm3
  have HB := Lib.hid hb3
  have x0 : w2.cell? ⟨gb, 0, none⟩ = some (.slice A0 P.length c0) := hm3.cell 0
  have x1 : w2.cell? ⟨gb, 1, none⟩ = some (.slice A1 T.length c1) := hm3.cell 1
  clear hm3 hb3
  by_cases hr : r = 0
  · subst hr
    obtain ⟨hS, hsg⟩ := surf_of HT.out
    have hT8 := hS.hT
    have hP4 := hS.hP
    replace hS := Lib.hid hS
    have hmk1 := print_make_of (P := Tryd.prog) 54 4 (.bool false) 1 Tryd.underlying54 info4 rfl (by decide) T.length (by omega)
    have hmk2 := print_make_of (P := Tryd.prog) 32 3 (.int .i64 0) 8 Tryd.underlying32 info3 rfl (by decide) P.length (by omega)
    have hmm := @run_makeMap Tryd.prog
    go_upto_region 4 with fail
    have KS : ∀ w' : World, Kp w2 w' gb → w'.cell? ⟨gb, 0, none⟩ = some (.slice A0 P.length c0) ∧ w'.cell? ⟨gb, 1, none⟩ = some (.slice A1 T.length c1) := fun w' hk => by
      have hc : ∀ o : Nat, w'.cell? ⟨gb, o, none⟩ = w2.cell? ⟨gb, o, none⟩ := fun o => by simp [World.cell?, hk.1]
      exact ⟨(hc 0).trans x0, (hc 1).trans x1⟩
    replace KS := Lib.hid KS
    have HK0 : Hid (Kp w2 w2.drew gb) := Lib.hid ⟨rfl, HM.out.lt⟩
    go_cut [5] from 14 to 26 (fun v5 wx => ∃ b, v5 = .pointer (some ⟨b, 0, none⟩) ∧ Hid (Below gb w wx ∧ Blk wx gb 25 #[.slice A0 P.length c0, .slice A1 T.length c1] ∧ Gl wx ∧ ∃ e gm gn, Pre wx gb b A0 c0 A1 c1 P T e 0 (datE []) gm gn))
    case first =>
      refine start_ (n := 13) (S := fun w' => w'.cell? ⟨gb, 0, none⟩ = some (.slice A0 P.length c0) ∧ w'.cell? ⟨gb, 1, none⟩ = some (.slice A1 T.length c1)) (ds := []) #[false, false, false, false, false, false, false, false, false, false, false, false, false] (by kernel_rfl) rfl rfl (KS.out _ HK0.out) (fun hHeld => ?_)
      refine take_ (i := 0) (N := some 14) (v := ?_) (a' := ?_) #[true, false, false, false, false, false, false, false, false, false, false, false, false] rfl rfl (by kernel_rfl) (fun _ _ _ h => h) (Or.inl ⟨by rfl, ?_⟩) hHeld ?_ ?_
      rotate_left
      · rintro w' ⟨s0, s1⟩
        go_simp
        with_reducible rfl
      rotate_left
      · simp only [Act.put, List.setIfInBounds_toArray, List.set_cons_zero, List.set_cons_succ, i64_w, i32_w]
        rfl
      refine pure_ (i := 2) (N := some 16) (v := ?_) (a' := ?_) #[true, false, true, false, false, false, false, false, false, false, false, false, false] rfl rfl (by kernel_rfl) (fun _ _ _ h => h) (Or.inl ⟨by rfl, ?_⟩) ?_ ?_
      rotate_left
      · intro w'
        go_simp
        with_reducible rfl
      rotate_left
      · simp only [Act.put, List.setIfInBounds_toArray, List.set_cons_zero, List.set_cons_succ, i64_w, i32_w]
        rfl
      refine take_ (i := 3) (N := some 17) (v := ?_) (a' := ?_) #[true, false, true, true, false, false, false, false, false, false, false, false, false] rfl rfl (by kernel_rfl) (fun _ _ _ h => h) (Or.inl ⟨by rfl, ?_⟩) hHeld ?_ ?_
      rotate_left
      · rintro w' ⟨s0, s1⟩
        go_simp
        with_reducible rfl
      rotate_left
      · simp only [Act.put, List.setIfInBounds_toArray, List.set_cons_zero, List.set_cons_succ, i64_w, i32_w]
        rfl
      refine pure_ (i := 4) (N := some 18) (v := ?_) (a' := ?_) #[true, false, true, true, true, false, false, false, false, false, false, false, false] rfl rfl (by kernel_rfl) (fun _ _ _ h => h) (Or.inl ⟨by rfl, ?_⟩) ?_ ?_
      rotate_left
      · intro w'
        go_simp
        with_reducible rfl
      rotate_left
      · simp only [Act.put, List.setIfInBounds_toArray, List.set_cons_zero, List.set_cons_succ, i64_w, i32_w]
        rfl
      refine pure_ (i := 6) (N := some 20) (v := ?_) (a' := ?_) #[true, false, true, true, true, false, true, false, false, false, false, false, false] rfl rfl (by kernel_rfl) (fun _ _ _ h => h) (Or.inl ⟨by rfl, ?_⟩) ?_ ?_
      rotate_left
      · intro w'
        go_simp
        with_reducible rfl
      rotate_left
      · simp only [Act.put, List.setIfInBounds_toArray, List.set_cons_zero, List.set_cons_succ, i64_w, i32_w]
        rfl
      refine take_ (i := 7) (N := some 21) (v := ?_) (a' := ?_) #[true, false, true, true, true, false, true, true, false, false, false, false, false] rfl rfl (by kernel_rfl) (fun _ _ _ h => h) (Or.inl ⟨by rfl, ?_⟩) hHeld ?_ ?_
      rotate_left
      · rintro w' ⟨s0, s1⟩
        go_simp
        with_reducible rfl
      rotate_left
      · simp only [Act.put, List.setIfInBounds_toArray, List.set_cons_zero, List.set_cons_succ, i64_w, i32_w]
        rfl
      refine pure_ (i := 8) (N := some 22) (v := ?_) (a' := ?_) #[true, false, true, true, true, false, true, true, true, false, false, false, false] rfl rfl (by kernel_rfl) (fun _ _ _ h => h) (Or.inl ⟨by rfl, ?_⟩) ?_ ?_
      rotate_left
      · intro w'
        go_simp
        with_reducible rfl
      rotate_left
      · simp only [Act.put, List.setIfInBounds_toArray, List.set_cons_zero, List.set_cons_succ, i64_w, i32_w]
        rfl
      refine three_ (i := 1) (j := 5) (k := 9) (Ni := some 15) (Nj := some 19) (Nk := some 23) #[true, true, true, true, true, false, true, true, true, false, false, false, false] #[true, false, true, true, true, true, true, true, true, false, false, false, false] #[true, false, true, true, true, false, true, true, true, true, false, false, false] rfl rfl rfl rfl rfl rfl (by kernel_rfl) (by decide) (by decide) (by decide) (fun K hK => ?_) (fun K hK => ?_) (fun K hK => ?_)
      · skip
        refine value_ (w1 := ?_) (v := ?_) (by rfl) rfl ?_ ?_
        rotate_left 2
        · (go_simp; constructor <;> rfl)
        refine hK.out _ _ (KS.out _ (HK0.out.alloc _)) (fun hHeld => ?_)
        clear hK K
        have HK1 := Lib.hid (HK0.out.alloc (.map #[] 0))
        refine norm_ (a' := ?_) ?_ ?_
        rotate_left
        · show Act.put _ (some 15) _ = _
          simp only [Act.put, List.setIfInBounds_toArray, List.set_cons_zero, List.set_cons_succ, i64_w, i32_w]
          rfl
        refine two_ (i := 5) (j := 9) (Ni := some 19) (Nj := some 23) #[true, true, true, true, true, true, true, true, true, false, false, false, false] #[true, true, true, true, true, false, true, true, true, true, false, false, false] rfl rfl rfl rfl (by kernel_rfl) (by decide) (by decide) (fun K hK => ?_) (fun K hK => ?_)
        · skip
          refine value_ (w1 := ?_) (v := ?_) (by rfl) rfl ?_ ?_
          rotate_left 2
          · (go_simp; constructor <;> rfl)
          refine hK.out _ _ (KS.out _ (HK1.out.alloc _)) (fun hHeld => ?_)
          clear hK K
          have HK2 := Lib.hid (HK1.out.alloc (.cells (madeCells #[.bool false] T.length) 4 (0, 0)))
          refine norm_ (a' := ?_) ?_ ?_
          rotate_left
          · show Act.put _ (some 19) _ = _
            simp only [Act.put, List.setIfInBounds_toArray, List.set_cons_zero, List.set_cons_succ, i64_w, i32_w]
            rfl
          refine one_ (i := 9) (N := (some 23)) #[true, true, true, true, true, true, true, true, true, true, false, false, false] rfl rfl (by kernel_rfl) (by decide) (fun K hK => ?_)
          refine value_ (w1 := ?_) (v := ?_) (by rfl) rfl ?_ ?_
          rotate_left 2
          · (go_simp; constructor <;> rfl)
          refine hK.out _ _ (KS.out _ (HK2.out.alloc _)) (fun hHeld => ?_)
          clear hK K
          have HK3 := Lib.hid (HK2.out.alloc (.cells (madeCells #[.int .i64 0] P.length) 3 (0, 0)))
          refine norm_ (a' := ?_) ?_ ?_
          rotate_left
          · show Act.put _ (some 23) _ = _
            simp only [Act.put, List.setIfInBounds_toArray, List.set_cons_zero, List.set_cons_succ, i64_w, i32_w]
            rfl
          refine pure_ (i := 10) (N := some 24) (v := ?_) (a' := ?_) #[true, true, true, true, true, true, true, true, true, true, true, false, false] rfl rfl (by kernel_rfl) (fun _ _ _ h => h) (Or.inl ⟨by rfl, ?_⟩) ?_ ?_
          rotate_left
          · intro w'
            go_simp
            with_reducible rfl
          rotate_left
          · simp only [Act.put, List.setIfInBounds_toArray, List.set_cons_zero, List.set_cons_succ, i64_w, i32_w]
            rfl
          refine one_ (i := 11) (N := (some 25)) #[true, true, true, true, true, true, true, true, true, true, true, true, false] rfl rfl (by kernel_rfl) (by decide) (fun K hK => ?_)
          refine value_ (w1 := ?_) (v := ?_) (by rfl) rfl ?_ ?_
          rotate_left 2
          · (go_simp; constructor <;> rfl)
          refine hK.out _ _ (KS.out _ (HK3.out.alloc _)) (fun hHeld => ?_)
          clear hK K
          refine norm_ (a' := ?_) ?_ ?_
          rotate_left
          · show Act.put _ (some 25) _ = _
            simp only [Act.put, List.setIfInBounds_toArray, List.set_cons_zero, List.set_cons_succ, i64_w, i32_w]
            rfl
          refine pure_ (i := 12) (N := some 5) (v := ?_) (a' := ?_) #[true, true, true, true, true, true, true, true, true, true, true, true, true] rfl rfl (by kernel_rfl) (fun _ _ _ h => h) (Or.inl ⟨by rfl, ?_⟩) ?_ ?_
          rotate_left
          · intro w'
            go_simp
            with_reducible rfl
          rotate_left
          · simp only [Act.put, List.setIfInBounds_toArray, List.set_cons_zero, List.set_cons_succ, i64_w, i32_w]
            rfl
          refine done_ (by kernel_rfl) ?_
          go_wp2_with fail
          go_meet
          have a1 : (w2.alloc (.map #[] 0)).heap.size = w2.heap.size + 1 := by simp
          have a2 : ((w2.alloc (.map #[] 0)).alloc (.cells (madeCells #[.bool false] T.length) 4 (0, 0))).heap.size = w2.heap.size + 1 + 1 := by simp
          have a3 : (((w2.alloc (.map #[] 0)).alloc (.cells (madeCells #[.bool false] T.length) 4 (0, 0))).alloc (.cells (madeCells #[.int .i64 0] P.length) 3 (0, 0))).heap.size = w2.heap.size + 1 + 1 + 1 := by simp
          have fe := World.ownsMap_made (H := Unit) w2 Tryd.prog 107 (plainElem Tryd.prog 3)
          replace fe := fe.alloc (.cells (madeCells #[.bool false] T.length) 4 (0, 0))
          replace fe := fe.alloc (.cells (madeCells #[.int .i64 0] P.length) 3 (0, 0))
          replace fe := fe.alloc (.cells #[.slice A0 P.length c0, .slice A1 T.length c1, .map (some (w2.heap.size)), .slice (some ⟨w2.heap.size + 1, 0, none⟩) T.length T.length, .slice (some ⟨w2.heap.size + 1 + 1, 0, none⟩) P.length P.length, .slice none 0 0, .slice none 0 0, .slice none 0 0, .slice none 0 0, .slice none 0 0] 96 (0, 0))
          replace fe := fe.drew
          have fm := Blk.here (w2.alloc (.map #[] 0)) 4 (madeCells #[.bool false] T.length)
          rw [a1] at fm
          replace fm := fm.alloc (.cells (madeCells #[.int .i64 0] P.length) 3 (0, 0))
          replace fm := fm.alloc (.cells #[.slice A0 P.length c0, .slice A1 T.length c1, .map (some (w2.heap.size)), .slice (some ⟨w2.heap.size + 1, 0, none⟩) T.length T.length, .slice (some ⟨w2.heap.size + 1 + 1, 0, none⟩) P.length P.length, .slice none 0 0, .slice none 0 0, .slice none 0 0, .slice none 0 0, .slice none 0 0] 96 (0, 0))
          replace fm := fm.drew
          have fn := Blk.here ((w2.alloc (.map #[] 0)).alloc (.cells (madeCells #[.bool false] T.length) 4 (0, 0))) 3 (madeCells #[.int .i64 0] P.length)
          rw [a2] at fn
          replace fn := fn.alloc (.cells #[.slice A0 P.length c0, .slice A1 T.length c1, .map (some (w2.heap.size)), .slice (some ⟨w2.heap.size + 1, 0, none⟩) T.length T.length, .slice (some ⟨w2.heap.size + 1 + 1, 0, none⟩) P.length P.length, .slice none 0 0, .slice none 0 0, .slice none 0 0, .slice none 0 0, .slice none 0 0] 96 (0, 0))
          replace fn := fn.drew
          have fb := (Blk.here (((w2.alloc (.map #[] 0)).alloc (.cells (madeCells #[.bool false] T.length) 4 (0, 0))).alloc (.cells (madeCells #[.int .i64 0] P.length) 3 (0, 0))) 96 #[.slice A0 P.length c0, .slice A1 T.length c1, .map (some (w2.heap.size)), .slice (some ⟨w2.heap.size + 1, 0, none⟩) T.length T.length, .slice (some ⟨w2.heap.size + 1 + 1, 0, none⟩) P.length P.length, .slice none 0 0, .slice none 0 0, .slice none 0 0, .slice none 0 0, .slice none 0 0]).drew
          rw [a3] at fb
          have hgs := HM.out.lt
          exact ⟨_, rfl, Lib.hid ⟨((((HB.out.alloc (Nat.le_of_lt HK0.out.2) (.map #[] 0)).alloc (Nat.le_of_lt HK1.out.2) (.cells (madeCells #[.bool false] T.length) 4 (0, 0))).alloc (Nat.le_of_lt HK2.out.2) (.cells (madeCells #[.int .i64 0] P.length) 3 (0, 0))).alloc (Nat.le_of_lt HK3.out.2) (.cells #[.slice A0 P.length c0, .slice A1 T.length c1, .map (some (w2.heap.size)), .slice (some ⟨w2.heap.size + 1, 0, none⟩) T.length T.length, .slice (some ⟨w2.heap.size + 1 + 1, 0, none⟩) P.length P.length, .slice none 0 0, .slice none 0 0, .slice none 0 0, .slice none 0 0, .slice none 0 0] 96 (0, 0))).drew, ((((HM.out.alloc (.map #[] 0)).alloc (.cells (madeCells #[.bool false] T.length) 4 (0, 0))).alloc (.cells (madeCells #[.int .i64 0] P.length) 3 (0, 0))).alloc (.cells #[.slice A0 P.length c0, .slice A1 T.length c1, .map (some (w2.heap.size)), .slice (some ⟨w2.heap.size + 1, 0, none⟩) T.length T.length, .slice (some ⟨w2.heap.size + 1 + 1, 0, none⟩) P.length P.length, .slice none 0 0, .slice none 0 0, .slice none 0 0, .slice none 0 0, .slice none 0 0] 96 (0, 0))).drew, ((((hG3.out.alloc (.map #[] 0)).alloc (.cells (madeCells #[.bool false] T.length) 4 (0, 0))).alloc (.cells (madeCells #[.int .i64 0] P.length) 3 (0, 0))).alloc (.cells #[.slice A0 P.length c0, .slice A1 T.length c1, .map (some (w2.heap.size)), .slice (some ⟨w2.heap.size + 1, 0, none⟩) T.length T.length, .slice (some ⟨w2.heap.size + 1 + 1, 0, none⟩) P.length P.length, .slice none 0 0, .slice none 0 0, .slice none 0 0, .slice none 0 0, .slice none 0 0] 96 (0, 0))).drew, w2.heap.size, w2.heap.size + 1, w2.heap.size + 1 + 1, fb, by omega, by omega, by omega, by omega, fe, fm, fn⟩⟩
        · skip
          refine value_ (w1 := ?_) (v := ?_) (by rfl) rfl ?_ ?_
          rotate_left 2
          · (go_simp; constructor <;> rfl)
          refine hK.out _ _ (KS.out _ (HK1.out.alloc _)) (fun hHeld => ?_)
          clear hK K
          have HK2 := Lib.hid (HK1.out.alloc (.cells (madeCells #[.int .i64 0] P.length) 3 (0, 0)))
          refine norm_ (a' := ?_) ?_ ?_
          rotate_left
          · show Act.put _ (some 23) _ = _
            simp only [Act.put, List.setIfInBounds_toArray, List.set_cons_zero, List.set_cons_succ, i64_w, i32_w]
            rfl
          refine one_ (i := 5) (N := (some 19)) #[true, true, true, true, true, true, true, true, true, true, false, false, false] rfl rfl (by kernel_rfl) (by decide) (fun K hK => ?_)
          refine value_ (w1 := ?_) (v := ?_) (by rfl) rfl ?_ ?_
          rotate_left 2
          · (go_simp; constructor <;> rfl)
          refine hK.out _ _ (KS.out _ (HK2.out.alloc _)) (fun hHeld => ?_)
          clear hK K
          have HK3 := Lib.hid (HK2.out.alloc (.cells (madeCells #[.bool false] T.length) 4 (0, 0)))
          refine norm_ (a' := ?_) ?_ ?_
          rotate_left
          · show Act.put _ (some 19) _ = _
            simp only [Act.put, List.setIfInBounds_toArray, List.set_cons_zero, List.set_cons_succ, i64_w, i32_w]
            rfl
          refine pure_ (i := 10) (N := some 24) (v := ?_) (a' := ?_) #[true, true, true, true, true, true, true, true, true, true, true, false, false] rfl rfl (by kernel_rfl) (fun _ _ _ h => h) (Or.inl ⟨by rfl, ?_⟩) ?_ ?_
          rotate_left
          · intro w'
            go_simp
            with_reducible rfl
          rotate_left
          · simp only [Act.put, List.setIfInBounds_toArray, List.set_cons_zero, List.set_cons_succ, i64_w, i32_w]
            rfl
          refine one_ (i := 11) (N := (some 25)) #[true, true, true, true, true, true, true, true, true, true, true, true, false] rfl rfl (by kernel_rfl) (by decide) (fun K hK => ?_)
          refine value_ (w1 := ?_) (v := ?_) (by rfl) rfl ?_ ?_
          rotate_left 2
          · (go_simp; constructor <;> rfl)
          refine hK.out _ _ (KS.out _ (HK3.out.alloc _)) (fun hHeld => ?_)
          clear hK K
          refine norm_ (a' := ?_) ?_ ?_
          rotate_left
          · show Act.put _ (some 25) _ = _
            simp only [Act.put, List.setIfInBounds_toArray, List.set_cons_zero, List.set_cons_succ, i64_w, i32_w]
            rfl
          refine pure_ (i := 12) (N := some 5) (v := ?_) (a' := ?_) #[true, true, true, true, true, true, true, true, true, true, true, true, true] rfl rfl (by kernel_rfl) (fun _ _ _ h => h) (Or.inl ⟨by rfl, ?_⟩) ?_ ?_
          rotate_left
          · intro w'
            go_simp
            with_reducible rfl
          rotate_left
          · simp only [Act.put, List.setIfInBounds_toArray, List.set_cons_zero, List.set_cons_succ, i64_w, i32_w]
            rfl
          refine done_ (by kernel_rfl) ?_
          go_wp2_with fail
          go_meet
          have a1 : (w2.alloc (.map #[] 0)).heap.size = w2.heap.size + 1 := by simp
          have a2 : ((w2.alloc (.map #[] 0)).alloc (.cells (madeCells #[.int .i64 0] P.length) 3 (0, 0))).heap.size = w2.heap.size + 1 + 1 := by simp
          have a3 : (((w2.alloc (.map #[] 0)).alloc (.cells (madeCells #[.int .i64 0] P.length) 3 (0, 0))).alloc (.cells (madeCells #[.bool false] T.length) 4 (0, 0))).heap.size = w2.heap.size + 1 + 1 + 1 := by simp
          have fe := World.ownsMap_made (H := Unit) w2 Tryd.prog 107 (plainElem Tryd.prog 3)
          replace fe := fe.alloc (.cells (madeCells #[.int .i64 0] P.length) 3 (0, 0))
          replace fe := fe.alloc (.cells (madeCells #[.bool false] T.length) 4 (0, 0))
          replace fe := fe.alloc (.cells #[.slice A0 P.length c0, .slice A1 T.length c1, .map (some (w2.heap.size)), .slice (some ⟨w2.heap.size + 1 + 1, 0, none⟩) T.length T.length, .slice (some ⟨w2.heap.size + 1, 0, none⟩) P.length P.length, .slice none 0 0, .slice none 0 0, .slice none 0 0, .slice none 0 0, .slice none 0 0] 96 (0, 0))
          replace fe := fe.drew
          have fn := Blk.here (w2.alloc (.map #[] 0)) 3 (madeCells #[.int .i64 0] P.length)
          rw [a1] at fn
          replace fn := fn.alloc (.cells (madeCells #[.bool false] T.length) 4 (0, 0))
          replace fn := fn.alloc (.cells #[.slice A0 P.length c0, .slice A1 T.length c1, .map (some (w2.heap.size)), .slice (some ⟨w2.heap.size + 1 + 1, 0, none⟩) T.length T.length, .slice (some ⟨w2.heap.size + 1, 0, none⟩) P.length P.length, .slice none 0 0, .slice none 0 0, .slice none 0 0, .slice none 0 0, .slice none 0 0] 96 (0, 0))
          replace fn := fn.drew
          have fm := Blk.here ((w2.alloc (.map #[] 0)).alloc (.cells (madeCells #[.int .i64 0] P.length) 3 (0, 0))) 4 (madeCells #[.bool false] T.length)
          rw [a2] at fm
          replace fm := fm.alloc (.cells #[.slice A0 P.length c0, .slice A1 T.length c1, .map (some (w2.heap.size)), .slice (some ⟨w2.heap.size + 1 + 1, 0, none⟩) T.length T.length, .slice (some ⟨w2.heap.size + 1, 0, none⟩) P.length P.length, .slice none 0 0, .slice none 0 0, .slice none 0 0, .slice none 0 0, .slice none 0 0] 96 (0, 0))
          replace fm := fm.drew
          have fb := (Blk.here (((w2.alloc (.map #[] 0)).alloc (.cells (madeCells #[.int .i64 0] P.length) 3 (0, 0))).alloc (.cells (madeCells #[.bool false] T.length) 4 (0, 0))) 96 #[.slice A0 P.length c0, .slice A1 T.length c1, .map (some (w2.heap.size)), .slice (some ⟨w2.heap.size + 1 + 1, 0, none⟩) T.length T.length, .slice (some ⟨w2.heap.size + 1, 0, none⟩) P.length P.length, .slice none 0 0, .slice none 0 0, .slice none 0 0, .slice none 0 0, .slice none 0 0]).drew
          rw [a3] at fb
          have hgs := HM.out.lt
          exact ⟨_, rfl, Lib.hid ⟨((((HB.out.alloc (Nat.le_of_lt HK0.out.2) (.map #[] 0)).alloc (Nat.le_of_lt HK1.out.2) (.cells (madeCells #[.int .i64 0] P.length) 3 (0, 0))).alloc (Nat.le_of_lt HK2.out.2) (.cells (madeCells #[.bool false] T.length) 4 (0, 0))).alloc (Nat.le_of_lt HK3.out.2) (.cells #[.slice A0 P.length c0, .slice A1 T.length c1, .map (some (w2.heap.size)), .slice (some ⟨w2.heap.size + 1 + 1, 0, none⟩) T.length T.length, .slice (some ⟨w2.heap.size + 1, 0, none⟩) P.length P.length, .slice none 0 0, .slice none 0 0, .slice none 0 0, .slice none 0 0, .slice none 0 0] 96 (0, 0))).drew, ((((HM.out.alloc (.map #[] 0)).alloc (.cells (madeCells #[.int .i64 0] P.length) 3 (0, 0))).alloc (.cells (madeCells #[.bool false] T.length) 4 (0, 0))).alloc (.cells #[.slice A0 P.length c0, .slice A1 T.length c1, .map (some (w2.heap.size)), .slice (some ⟨w2.heap.size + 1 + 1, 0, none⟩) T.length T.length, .slice (some ⟨w2.heap.size + 1, 0, none⟩) P.length P.length, .slice none 0 0, .slice none 0 0, .slice none 0 0, .slice none 0 0, .slice none 0 0] 96 (0, 0))).drew, ((((hG3.out.alloc (.map #[] 0)).alloc (.cells (madeCells #[.int .i64 0] P.length) 3 (0, 0))).alloc (.cells (madeCells #[.bool false] T.length) 4 (0, 0))).alloc (.cells #[.slice A0 P.length c0, .slice A1 T.length c1, .map (some (w2.heap.size)), .slice (some ⟨w2.heap.size + 1 + 1, 0, none⟩) T.length T.length, .slice (some ⟨w2.heap.size + 1, 0, none⟩) P.length P.length, .slice none 0 0, .slice none 0 0, .slice none 0 0, .slice none 0 0, .slice none 0 0] 96 (0, 0))).drew, w2.heap.size, w2.heap.size + 1 + 1, w2.heap.size + 1, fb, by omega, by omega, by omega, by omega, fe, fm, fn⟩⟩
      · skip
        refine value_ (w1 := ?_) (v := ?_) (by rfl) rfl ?_ ?_
        rotate_left 2
        · (go_simp; constructor <;> rfl)
        refine hK.out _ _ (KS.out _ (HK0.out.alloc _)) (fun hHeld => ?_)
        clear hK K
        have HK1 := Lib.hid (HK0.out.alloc (.cells (madeCells #[.bool false] T.length) 4 (0, 0)))
        refine norm_ (a' := ?_) ?_ ?_
        rotate_left
        · show Act.put _ (some 19) _ = _
          simp only [Act.put, List.setIfInBounds_toArray, List.set_cons_zero, List.set_cons_succ, i64_w, i32_w]
          rfl
        refine two_ (i := 1) (j := 9) (Ni := some 15) (Nj := some 23) #[true, true, true, true, true, true, true, true, true, false, false, false, false] #[true, false, true, true, true, true, true, true, true, true, false, false, false] rfl rfl rfl rfl (by kernel_rfl) (by decide) (by decide) (fun K hK => ?_) (fun K hK => ?_)
        · skip
          refine value_ (w1 := ?_) (v := ?_) (by rfl) rfl ?_ ?_
          rotate_left 2
          · (go_simp; constructor <;> rfl)
          refine hK.out _ _ (KS.out _ (HK1.out.alloc _)) (fun hHeld => ?_)
          clear hK K
          have HK2 := Lib.hid (HK1.out.alloc (.map #[] 0))
          refine norm_ (a' := ?_) ?_ ?_
          rotate_left
          · show Act.put _ (some 15) _ = _
            simp only [Act.put, List.setIfInBounds_toArray, List.set_cons_zero, List.set_cons_succ, i64_w, i32_w]
            rfl
          refine one_ (i := 9) (N := (some 23)) #[true, true, true, true, true, true, true, true, true, true, false, false, false] rfl rfl (by kernel_rfl) (by decide) (fun K hK => ?_)
          refine value_ (w1 := ?_) (v := ?_) (by rfl) rfl ?_ ?_
          rotate_left 2
          · (go_simp; constructor <;> rfl)
          refine hK.out _ _ (KS.out _ (HK2.out.alloc _)) (fun hHeld => ?_)
          clear hK K
          have HK3 := Lib.hid (HK2.out.alloc (.cells (madeCells #[.int .i64 0] P.length) 3 (0, 0)))
          refine norm_ (a' := ?_) ?_ ?_
          rotate_left
          · show Act.put _ (some 23) _ = _
            simp only [Act.put, List.setIfInBounds_toArray, List.set_cons_zero, List.set_cons_succ, i64_w, i32_w]
            rfl
          refine pure_ (i := 10) (N := some 24) (v := ?_) (a' := ?_) #[true, true, true, true, true, true, true, true, true, true, true, false, false] rfl rfl (by kernel_rfl) (fun _ _ _ h => h) (Or.inl ⟨by rfl, ?_⟩) ?_ ?_
          rotate_left
          · intro w'
            go_simp
            with_reducible rfl
          rotate_left
          · simp only [Act.put, List.setIfInBounds_toArray, List.set_cons_zero, List.set_cons_succ, i64_w, i32_w]
            rfl
          refine one_ (i := 11) (N := (some 25)) #[true, true, true, true, true, true, true, true, true, true, true, true, false] rfl rfl (by kernel_rfl) (by decide) (fun K hK => ?_)
          refine value_ (w1 := ?_) (v := ?_) (by rfl) rfl ?_ ?_
          rotate_left 2
          · (go_simp; constructor <;> rfl)
          refine hK.out _ _ (KS.out _ (HK3.out.alloc _)) (fun hHeld => ?_)
          clear hK K
          refine norm_ (a' := ?_) ?_ ?_
          rotate_left
          · show Act.put _ (some 25) _ = _
            simp only [Act.put, List.setIfInBounds_toArray, List.set_cons_zero, List.set_cons_succ, i64_w, i32_w]
            rfl
          refine pure_ (i := 12) (N := some 5) (v := ?_) (a' := ?_) #[true, true, true, true, true, true, true, true, true, true, true, true, true] rfl rfl (by kernel_rfl) (fun _ _ _ h => h) (Or.inl ⟨by rfl, ?_⟩) ?_ ?_
          rotate_left
          · intro w'
            go_simp
            with_reducible rfl
          rotate_left
          · simp only [Act.put, List.setIfInBounds_toArray, List.set_cons_zero, List.set_cons_succ, i64_w, i32_w]
            rfl
          refine done_ (by kernel_rfl) ?_
          go_wp2_with fail
          go_meet
          have a1 : (w2.alloc (.cells (madeCells #[.bool false] T.length) 4 (0, 0))).heap.size = w2.heap.size + 1 := by simp
          have a2 : ((w2.alloc (.cells (madeCells #[.bool false] T.length) 4 (0, 0))).alloc (.map #[] 0)).heap.size = w2.heap.size + 1 + 1 := by simp
          have a3 : (((w2.alloc (.cells (madeCells #[.bool false] T.length) 4 (0, 0))).alloc (.map #[] 0)).alloc (.cells (madeCells #[.int .i64 0] P.length) 3 (0, 0))).heap.size = w2.heap.size + 1 + 1 + 1 := by simp
          have fm := Blk.here w2 4 (madeCells #[.bool false] T.length)
          replace fm := fm.alloc (.map #[] 0)
          replace fm := fm.alloc (.cells (madeCells #[.int .i64 0] P.length) 3 (0, 0))
          replace fm := fm.alloc (.cells #[.slice A0 P.length c0, .slice A1 T.length c1, .map (some (w2.heap.size + 1)), .slice (some ⟨w2.heap.size, 0, none⟩) T.length T.length, .slice (some ⟨w2.heap.size + 1 + 1, 0, none⟩) P.length P.length, .slice none 0 0, .slice none 0 0, .slice none 0 0, .slice none 0 0, .slice none 0 0] 96 (0, 0))
          replace fm := fm.drew
          have fe := World.ownsMap_made (H := Unit) (w2.alloc (.cells (madeCells #[.bool false] T.length) 4 (0, 0))) Tryd.prog 107 (plainElem Tryd.prog 3)
          rw [a1] at fe
          replace fe := fe.alloc (.cells (madeCells #[.int .i64 0] P.length) 3 (0, 0))
          replace fe := fe.alloc (.cells #[.slice A0 P.length c0, .slice A1 T.length c1, .map (some (w2.heap.size + 1)), .slice (some ⟨w2.heap.size, 0, none⟩) T.length T.length, .slice (some ⟨w2.heap.size + 1 + 1, 0, none⟩) P.length P.length, .slice none 0 0, .slice none 0 0, .slice none 0 0, .slice none 0 0, .slice none 0 0] 96 (0, 0))
          replace fe := fe.drew
          have fn := Blk.here ((w2.alloc (.cells (madeCells #[.bool false] T.length) 4 (0, 0))).alloc (.map #[] 0)) 3 (madeCells #[.int .i64 0] P.length)
          rw [a2] at fn
          replace fn := fn.alloc (.cells #[.slice A0 P.length c0, .slice A1 T.length c1, .map (some (w2.heap.size + 1)), .slice (some ⟨w2.heap.size, 0, none⟩) T.length T.length, .slice (some ⟨w2.heap.size + 1 + 1, 0, none⟩) P.length P.length, .slice none 0 0, .slice none 0 0, .slice none 0 0, .slice none 0 0, .slice none 0 0] 96 (0, 0))
          replace fn := fn.drew
          have fb := (Blk.here (((w2.alloc (.cells (madeCells #[.bool false] T.length) 4 (0, 0))).alloc (.map #[] 0)).alloc (.cells (madeCells #[.int .i64 0] P.length) 3 (0, 0))) 96 #[.slice A0 P.length c0, .slice A1 T.length c1, .map (some (w2.heap.size + 1)), .slice (some ⟨w2.heap.size, 0, none⟩) T.length T.length, .slice (some ⟨w2.heap.size + 1 + 1, 0, none⟩) P.length P.length, .slice none 0 0, .slice none 0 0, .slice none 0 0, .slice none 0 0, .slice none 0 0]).drew
          rw [a3] at fb
          have hgs := HM.out.lt
          exact ⟨_, rfl, Lib.hid ⟨((((HB.out.alloc (Nat.le_of_lt HK0.out.2) (.cells (madeCells #[.bool false] T.length) 4 (0, 0))).alloc (Nat.le_of_lt HK1.out.2) (.map #[] 0)).alloc (Nat.le_of_lt HK2.out.2) (.cells (madeCells #[.int .i64 0] P.length) 3 (0, 0))).alloc (Nat.le_of_lt HK3.out.2) (.cells #[.slice A0 P.length c0, .slice A1 T.length c1, .map (some (w2.heap.size + 1)), .slice (some ⟨w2.heap.size, 0, none⟩) T.length T.length, .slice (some ⟨w2.heap.size + 1 + 1, 0, none⟩) P.length P.length, .slice none 0 0, .slice none 0 0, .slice none 0 0, .slice none 0 0, .slice none 0 0] 96 (0, 0))).drew, ((((HM.out.alloc (.cells (madeCells #[.bool false] T.length) 4 (0, 0))).alloc (.map #[] 0)).alloc (.cells (madeCells #[.int .i64 0] P.length) 3 (0, 0))).alloc (.cells #[.slice A0 P.length c0, .slice A1 T.length c1, .map (some (w2.heap.size + 1)), .slice (some ⟨w2.heap.size, 0, none⟩) T.length T.length, .slice (some ⟨w2.heap.size + 1 + 1, 0, none⟩) P.length P.length, .slice none 0 0, .slice none 0 0, .slice none 0 0, .slice none 0 0, .slice none 0 0] 96 (0, 0))).drew, ((((hG3.out.alloc (.cells (madeCells #[.bool false] T.length) 4 (0, 0))).alloc (.map #[] 0)).alloc (.cells (madeCells #[.int .i64 0] P.length) 3 (0, 0))).alloc (.cells #[.slice A0 P.length c0, .slice A1 T.length c1, .map (some (w2.heap.size + 1)), .slice (some ⟨w2.heap.size, 0, none⟩) T.length T.length, .slice (some ⟨w2.heap.size + 1 + 1, 0, none⟩) P.length P.length, .slice none 0 0, .slice none 0 0, .slice none 0 0, .slice none 0 0, .slice none 0 0] 96 (0, 0))).drew, w2.heap.size + 1, w2.heap.size, w2.heap.size + 1 + 1, fb, by omega, by omega, by omega, by omega, fe, fm, fn⟩⟩
        · skip
          refine value_ (w1 := ?_) (v := ?_) (by rfl) rfl ?_ ?_
          rotate_left 2
          · (go_simp; constructor <;> rfl)
          refine hK.out _ _ (KS.out _ (HK1.out.alloc _)) (fun hHeld => ?_)
          clear hK K
          have HK2 := Lib.hid (HK1.out.alloc (.cells (madeCells #[.int .i64 0] P.length) 3 (0, 0)))
          refine norm_ (a' := ?_) ?_ ?_
          rotate_left
          · show Act.put _ (some 23) _ = _
            simp only [Act.put, List.setIfInBounds_toArray, List.set_cons_zero, List.set_cons_succ, i64_w, i32_w]
            rfl
          refine one_ (i := 1) (N := (some 15)) #[true, true, true, true, true, true, true, true, true, true, false, false, false] rfl rfl (by kernel_rfl) (by decide) (fun K hK => ?_)
          refine value_ (w1 := ?_) (v := ?_) (by rfl) rfl ?_ ?_
          rotate_left 2
          · (go_simp; constructor <;> rfl)
          refine hK.out _ _ (KS.out _ (HK2.out.alloc _)) (fun hHeld => ?_)
          clear hK K
          have HK3 := Lib.hid (HK2.out.alloc (.map #[] 0))
          refine norm_ (a' := ?_) ?_ ?_
          rotate_left
          · show Act.put _ (some 15) _ = _
            simp only [Act.put, List.setIfInBounds_toArray, List.set_cons_zero, List.set_cons_succ, i64_w, i32_w]
            rfl
          refine pure_ (i := 10) (N := some 24) (v := ?_) (a' := ?_) #[true, true, true, true, true, true, true, true, true, true, true, false, false] rfl rfl (by kernel_rfl) (fun _ _ _ h => h) (Or.inl ⟨by rfl, ?_⟩) ?_ ?_
          rotate_left
          · intro w'
            go_simp
            with_reducible rfl
          rotate_left
          · simp only [Act.put, List.setIfInBounds_toArray, List.set_cons_zero, List.set_cons_succ, i64_w, i32_w]
            rfl
          refine one_ (i := 11) (N := (some 25)) #[true, true, true, true, true, true, true, true, true, true, true, true, false] rfl rfl (by kernel_rfl) (by decide) (fun K hK => ?_)
          refine value_ (w1 := ?_) (v := ?_) (by rfl) rfl ?_ ?_
          rotate_left 2
          · (go_simp; constructor <;> rfl)
          refine hK.out _ _ (KS.out _ (HK3.out.alloc _)) (fun hHeld => ?_)
          clear hK K
          refine norm_ (a' := ?_) ?_ ?_
          rotate_left
          · show Act.put _ (some 25) _ = _
            simp only [Act.put, List.setIfInBounds_toArray, List.set_cons_zero, List.set_cons_succ, i64_w, i32_w]
            rfl
          refine pure_ (i := 12) (N := some 5) (v := ?_) (a' := ?_) #[true, true, true, true, true, true, true, true, true, true, true, true, true] rfl rfl (by kernel_rfl) (fun _ _ _ h => h) (Or.inl ⟨by rfl, ?_⟩) ?_ ?_
          rotate_left
          · intro w'
            go_simp
            with_reducible rfl
          rotate_left
          · simp only [Act.put, List.setIfInBounds_toArray, List.set_cons_zero, List.set_cons_succ, i64_w, i32_w]
            rfl
          refine done_ (by kernel_rfl) ?_
          go_wp2_with fail
          go_meet
          have a1 : (w2.alloc (.cells (madeCells #[.bool false] T.length) 4 (0, 0))).heap.size = w2.heap.size + 1 := by simp
          have a2 : ((w2.alloc (.cells (madeCells #[.bool false] T.length) 4 (0, 0))).alloc (.cells (madeCells #[.int .i64 0] P.length) 3 (0, 0))).heap.size = w2.heap.size + 1 + 1 := by simp
          have a3 : (((w2.alloc (.cells (madeCells #[.bool false] T.length) 4 (0, 0))).alloc (.cells (madeCells #[.int .i64 0] P.length) 3 (0, 0))).alloc (.map #[] 0)).heap.size = w2.heap.size + 1 + 1 + 1 := by simp
          have fm := Blk.here w2 4 (madeCells #[.bool false] T.length)
          replace fm := fm.alloc (.cells (madeCells #[.int .i64 0] P.length) 3 (0, 0))
          replace fm := fm.alloc (.map #[] 0)
          replace fm := fm.alloc (.cells #[.slice A0 P.length c0, .slice A1 T.length c1, .map (some (w2.heap.size + 1 + 1)), .slice (some ⟨w2.heap.size, 0, none⟩) T.length T.length, .slice (some ⟨w2.heap.size + 1, 0, none⟩) P.length P.length, .slice none 0 0, .slice none 0 0, .slice none 0 0, .slice none 0 0, .slice none 0 0] 96 (0, 0))
          replace fm := fm.drew
          have fn := Blk.here (w2.alloc (.cells (madeCells #[.bool false] T.length) 4 (0, 0))) 3 (madeCells #[.int .i64 0] P.length)
          rw [a1] at fn
          replace fn := fn.alloc (.map #[] 0)
          replace fn := fn.alloc (.cells #[.slice A0 P.length c0, .slice A1 T.length c1, .map (some (w2.heap.size + 1 + 1)), .slice (some ⟨w2.heap.size, 0, none⟩) T.length T.length, .slice (some ⟨w2.heap.size + 1, 0, none⟩) P.length P.length, .slice none 0 0, .slice none 0 0, .slice none 0 0, .slice none 0 0, .slice none 0 0] 96 (0, 0))
          replace fn := fn.drew
          have fe := World.ownsMap_made (H := Unit) ((w2.alloc (.cells (madeCells #[.bool false] T.length) 4 (0, 0))).alloc (.cells (madeCells #[.int .i64 0] P.length) 3 (0, 0))) Tryd.prog 107 (plainElem Tryd.prog 3)
          rw [a2] at fe
          replace fe := fe.alloc (.cells #[.slice A0 P.length c0, .slice A1 T.length c1, .map (some (w2.heap.size + 1 + 1)), .slice (some ⟨w2.heap.size, 0, none⟩) T.length T.length, .slice (some ⟨w2.heap.size + 1, 0, none⟩) P.length P.length, .slice none 0 0, .slice none 0 0, .slice none 0 0, .slice none 0 0, .slice none 0 0] 96 (0, 0))
          replace fe := fe.drew
          have fb := (Blk.here (((w2.alloc (.cells (madeCells #[.bool false] T.length) 4 (0, 0))).alloc (.cells (madeCells #[.int .i64 0] P.length) 3 (0, 0))).alloc (.map #[] 0)) 96 #[.slice A0 P.length c0, .slice A1 T.length c1, .map (some (w2.heap.size + 1 + 1)), .slice (some ⟨w2.heap.size, 0, none⟩) T.length T.length, .slice (some ⟨w2.heap.size + 1, 0, none⟩) P.length P.length, .slice none 0 0, .slice none 0 0, .slice none 0 0, .slice none 0 0, .slice none 0 0]).drew
          rw [a3] at fb
          have hgs := HM.out.lt
          exact ⟨_, rfl, Lib.hid ⟨((((HB.out.alloc (Nat.le_of_lt HK0.out.2) (.cells (madeCells #[.bool false] T.length) 4 (0, 0))).alloc (Nat.le_of_lt HK1.out.2) (.cells (madeCells #[.int .i64 0] P.length) 3 (0, 0))).alloc (Nat.le_of_lt HK2.out.2) (.map #[] 0)).alloc (Nat.le_of_lt HK3.out.2) (.cells #[.slice A0 P.length c0, .slice A1 T.length c1, .map (some (w2.heap.size + 1 + 1)), .slice (some ⟨w2.heap.size, 0, none⟩) T.length T.length, .slice (some ⟨w2.heap.size + 1, 0, none⟩) P.length P.length, .slice none 0 0, .slice none 0 0, .slice none 0 0, .slice none 0 0, .slice none 0 0] 96 (0, 0))).drew, ((((HM.out.alloc (.cells (madeCells #[.bool false] T.length) 4 (0, 0))).alloc (.cells (madeCells #[.int .i64 0] P.length) 3 (0, 0))).alloc (.map #[] 0)).alloc (.cells #[.slice A0 P.length c0, .slice A1 T.length c1, .map (some (w2.heap.size + 1 + 1)), .slice (some ⟨w2.heap.size, 0, none⟩) T.length T.length, .slice (some ⟨w2.heap.size + 1, 0, none⟩) P.length P.length, .slice none 0 0, .slice none 0 0, .slice none 0 0, .slice none 0 0, .slice none 0 0] 96 (0, 0))).drew, ((((hG3.out.alloc (.cells (madeCells #[.bool false] T.length) 4 (0, 0))).alloc (.cells (madeCells #[.int .i64 0] P.length) 3 (0, 0))).alloc (.map #[] 0)).alloc (.cells #[.slice A0 P.length c0, .slice A1 T.length c1, .map (some (w2.heap.size + 1 + 1)), .slice (some ⟨w2.heap.size, 0, none⟩) T.length T.length, .slice (some ⟨w2.heap.size + 1, 0, none⟩) P.length P.length, .slice none 0 0, .slice none 0 0, .slice none 0 0, .slice none 0 0, .slice none 0 0] 96 (0, 0))).drew, w2.heap.size + 1 + 1, w2.heap.size, w2.heap.size + 1, fb, by omega, by omega, by omega, by omega, fe, fm, fn⟩⟩
      · skip
        refine value_ (w1 := ?_) (v := ?_) (by rfl) rfl ?_ ?_
        rotate_left 2
        · (go_simp; constructor <;> rfl)
        refine hK.out _ _ (KS.out _ (HK0.out.alloc _)) (fun hHeld => ?_)
        clear hK K
        have HK1 := Lib.hid (HK0.out.alloc (.cells (madeCells #[.int .i64 0] P.length) 3 (0, 0)))
        refine norm_ (a' := ?_) ?_ ?_
        rotate_left
        · show Act.put _ (some 23) _ = _
          simp only [Act.put, List.setIfInBounds_toArray, List.set_cons_zero, List.set_cons_succ, i64_w, i32_w]
          rfl
        refine two_ (i := 1) (j := 5) (Ni := some 15) (Nj := some 19) #[true, true, true, true, true, false, true, true, true, true, false, false, false] #[true, false, true, true, true, true, true, true, true, true, false, false, false] rfl rfl rfl rfl (by kernel_rfl) (by decide) (by decide) (fun K hK => ?_) (fun K hK => ?_)
        · skip
          refine value_ (w1 := ?_) (v := ?_) (by rfl) rfl ?_ ?_
          rotate_left 2
          · (go_simp; constructor <;> rfl)
          refine hK.out _ _ (KS.out _ (HK1.out.alloc _)) (fun hHeld => ?_)
          clear hK K
          have HK2 := Lib.hid (HK1.out.alloc (.map #[] 0))
          refine norm_ (a' := ?_) ?_ ?_
          rotate_left
          · show Act.put _ (some 15) _ = _
            simp only [Act.put, List.setIfInBounds_toArray, List.set_cons_zero, List.set_cons_succ, i64_w, i32_w]
            rfl
          refine one_ (i := 5) (N := (some 19)) #[true, true, true, true, true, true, true, true, true, true, false, false, false] rfl rfl (by kernel_rfl) (by decide) (fun K hK => ?_)
          refine value_ (w1 := ?_) (v := ?_) (by rfl) rfl ?_ ?_
          rotate_left 2
          · (go_simp; constructor <;> rfl)
          refine hK.out _ _ (KS.out _ (HK2.out.alloc _)) (fun hHeld => ?_)
          clear hK K
          have HK3 := Lib.hid (HK2.out.alloc (.cells (madeCells #[.bool false] T.length) 4 (0, 0)))
          refine norm_ (a' := ?_) ?_ ?_
          rotate_left
          · show Act.put _ (some 19) _ = _
            simp only [Act.put, List.setIfInBounds_toArray, List.set_cons_zero, List.set_cons_succ, i64_w, i32_w]
            rfl
          refine pure_ (i := 10) (N := some 24) (v := ?_) (a' := ?_) #[true, true, true, true, true, true, true, true, true, true, true, false, false] rfl rfl (by kernel_rfl) (fun _ _ _ h => h) (Or.inl ⟨by rfl, ?_⟩) ?_ ?_
          rotate_left
          · intro w'
            go_simp
            with_reducible rfl
          rotate_left
          · simp only [Act.put, List.setIfInBounds_toArray, List.set_cons_zero, List.set_cons_succ, i64_w, i32_w]
            rfl
          refine one_ (i := 11) (N := (some 25)) #[true, true, true, true, true, true, true, true, true, true, true, true, false] rfl rfl (by kernel_rfl) (by decide) (fun K hK => ?_)
          refine value_ (w1 := ?_) (v := ?_) (by rfl) rfl ?_ ?_
          rotate_left 2
          · (go_simp; constructor <;> rfl)
          refine hK.out _ _ (KS.out _ (HK3.out.alloc _)) (fun hHeld => ?_)
          clear hK K
          refine norm_ (a' := ?_) ?_ ?_
          rotate_left
          · show Act.put _ (some 25) _ = _
            simp only [Act.put, List.setIfInBounds_toArray, List.set_cons_zero, List.set_cons_succ, i64_w, i32_w]
            rfl
          refine pure_ (i := 12) (N := some 5) (v := ?_) (a' := ?_) #[true, true, true, true, true, true, true, true, true, true, true, true, true] rfl rfl (by kernel_rfl) (fun _ _ _ h => h) (Or.inl ⟨by rfl, ?_⟩) ?_ ?_
          rotate_left
          · intro w'
            go_simp
            with_reducible rfl
          rotate_left
          · simp only [Act.put, List.setIfInBounds_toArray, List.set_cons_zero, List.set_cons_succ, i64_w, i32_w]
            rfl
          refine done_ (by kernel_rfl) ?_
          go_wp2_with fail
          go_meet
          have a1 : (w2.alloc (.cells (madeCells #[.int .i64 0] P.length) 3 (0, 0))).heap.size = w2.heap.size + 1 := by simp
          have a2 : ((w2.alloc (.cells (madeCells #[.int .i64 0] P.length) 3 (0, 0))).alloc (.map #[] 0)).heap.size = w2.heap.size + 1 + 1 := by simp
          have a3 : (((w2.alloc (.cells (madeCells #[.int .i64 0] P.length) 3 (0, 0))).alloc (.map #[] 0)).alloc (.cells (madeCells #[.bool false] T.length) 4 (0, 0))).heap.size = w2.heap.size + 1 + 1 + 1 := by simp
          have fn := Blk.here w2 3 (madeCells #[.int .i64 0] P.length)
          replace fn := fn.alloc (.map #[] 0)
          replace fn := fn.alloc (.cells (madeCells #[.bool false] T.length) 4 (0, 0))
          replace fn := fn.alloc (.cells #[.slice A0 P.length c0, .slice A1 T.length c1, .map (some (w2.heap.size + 1)), .slice (some ⟨w2.heap.size + 1 + 1, 0, none⟩) T.length T.length, .slice (some ⟨w2.heap.size, 0, none⟩) P.length P.length, .slice none 0 0, .slice none 0 0, .slice none 0 0, .slice none 0 0, .slice none 0 0] 96 (0, 0))
          replace fn := fn.drew
          have fe := World.ownsMap_made (H := Unit) (w2.alloc (.cells (madeCells #[.int .i64 0] P.length) 3 (0, 0))) Tryd.prog 107 (plainElem Tryd.prog 3)
          rw [a1] at fe
          replace fe := fe.alloc (.cells (madeCells #[.bool false] T.length) 4 (0, 0))
          replace fe := fe.alloc (.cells #[.slice A0 P.length c0, .slice A1 T.length c1, .map (some (w2.heap.size + 1)), .slice (some ⟨w2.heap.size + 1 + 1, 0, none⟩) T.length T.length, .slice (some ⟨w2.heap.size, 0, none⟩) P.length P.length, .slice none 0 0, .slice none 0 0, .slice none 0 0, .slice none 0 0, .slice none 0 0] 96 (0, 0))
          replace fe := fe.drew
          have fm := Blk.here ((w2.alloc (.cells (madeCells #[.int .i64 0] P.length) 3 (0, 0))).alloc (.map #[] 0)) 4 (madeCells #[.bool false] T.length)
          rw [a2] at fm
          replace fm := fm.alloc (.cells #[.slice A0 P.length c0, .slice A1 T.length c1, .map (some (w2.heap.size + 1)), .slice (some ⟨w2.heap.size + 1 + 1, 0, none⟩) T.length T.length, .slice (some ⟨w2.heap.size, 0, none⟩) P.length P.length, .slice none 0 0, .slice none 0 0, .slice none 0 0, .slice none 0 0, .slice none 0 0] 96 (0, 0))
          replace fm := fm.drew
          have fb := (Blk.here (((w2.alloc (.cells (madeCells #[.int .i64 0] P.length) 3 (0, 0))).alloc (.map #[] 0)).alloc (.cells (madeCells #[.bool false] T.length) 4 (0, 0))) 96 #[.slice A0 P.length c0, .slice A1 T.length c1, .map (some (w2.heap.size + 1)), .slice (some ⟨w2.heap.size + 1 + 1, 0, none⟩) T.length T.length, .slice (some ⟨w2.heap.size, 0, none⟩) P.length P.length, .slice none 0 0, .slice none 0 0, .slice none 0 0, .slice none 0 0, .slice none 0 0]).drew
          rw [a3] at fb
          have hgs := HM.out.lt
          exact ⟨_, rfl, Lib.hid ⟨((((HB.out.alloc (Nat.le_of_lt HK0.out.2) (.cells (madeCells #[.int .i64 0] P.length) 3 (0, 0))).alloc (Nat.le_of_lt HK1.out.2) (.map #[] 0)).alloc (Nat.le_of_lt HK2.out.2) (.cells (madeCells #[.bool false] T.length) 4 (0, 0))).alloc (Nat.le_of_lt HK3.out.2) (.cells #[.slice A0 P.length c0, .slice A1 T.length c1, .map (some (w2.heap.size + 1)), .slice (some ⟨w2.heap.size + 1 + 1, 0, none⟩) T.length T.length, .slice (some ⟨w2.heap.size, 0, none⟩) P.length P.length, .slice none 0 0, .slice none 0 0, .slice none 0 0, .slice none 0 0, .slice none 0 0] 96 (0, 0))).drew, ((((HM.out.alloc (.cells (madeCells #[.int .i64 0] P.length) 3 (0, 0))).alloc (.map #[] 0)).alloc (.cells (madeCells #[.bool false] T.length) 4 (0, 0))).alloc (.cells #[.slice A0 P.length c0, .slice A1 T.length c1, .map (some (w2.heap.size + 1)), .slice (some ⟨w2.heap.size + 1 + 1, 0, none⟩) T.length T.length, .slice (some ⟨w2.heap.size, 0, none⟩) P.length P.length, .slice none 0 0, .slice none 0 0, .slice none 0 0, .slice none 0 0, .slice none 0 0] 96 (0, 0))).drew, ((((hG3.out.alloc (.cells (madeCells #[.int .i64 0] P.length) 3 (0, 0))).alloc (.map #[] 0)).alloc (.cells (madeCells #[.bool false] T.length) 4 (0, 0))).alloc (.cells #[.slice A0 P.length c0, .slice A1 T.length c1, .map (some (w2.heap.size + 1)), .slice (some ⟨w2.heap.size + 1 + 1, 0, none⟩) T.length T.length, .slice (some ⟨w2.heap.size, 0, none⟩) P.length P.length, .slice none 0 0, .slice none 0 0, .slice none 0 0, .slice none 0 0, .slice none 0 0] 96 (0, 0))).drew, w2.heap.size + 1, w2.heap.size + 1 + 1, w2.heap.size, fb, by omega, by omega, by omega, by omega, fe, fm, fn⟩⟩
        · skip
          refine value_ (w1 := ?_) (v := ?_) (by rfl) rfl ?_ ?_
          rotate_left 2
          · (go_simp; constructor <;> rfl)
          refine hK.out _ _ (KS.out _ (HK1.out.alloc _)) (fun hHeld => ?_)
          clear hK K
          have HK2 := Lib.hid (HK1.out.alloc (.cells (madeCells #[.bool false] T.length) 4 (0, 0)))
          refine norm_ (a' := ?_) ?_ ?_
          rotate_left
          · show Act.put _ (some 19) _ = _
            simp only [Act.put, List.setIfInBounds_toArray, List.set_cons_zero, List.set_cons_succ, i64_w, i32_w]
            rfl
          refine one_ (i := 1) (N := (some 15)) #[true, true, true, true, true, true, true, true, true, true, false, false, false] rfl rfl (by kernel_rfl) (by decide) (fun K hK => ?_)
          refine value_ (w1 := ?_) (v := ?_) (by rfl) rfl ?_ ?_
          rotate_left 2
          · (go_simp; constructor <;> rfl)
          refine hK.out _ _ (KS.out _ (HK2.out.alloc _)) (fun hHeld => ?_)
          clear hK K
          have HK3 := Lib.hid (HK2.out.alloc (.map #[] 0))
          refine norm_ (a' := ?_) ?_ ?_
          rotate_left
          · show Act.put _ (some 15) _ = _
            simp only [Act.put, List.setIfInBounds_toArray, List.set_cons_zero, List.set_cons_succ, i64_w, i32_w]
            rfl
          refine pure_ (i := 10) (N := some 24) (v := ?_) (a' := ?_) #[true, true, true, true, true, true, true, true, true, true, true, false, false] rfl rfl (by kernel_rfl) (fun _ _ _ h => h) (Or.inl ⟨by rfl, ?_⟩) ?_ ?_
          rotate_left
          · intro w'
            go_simp
            with_reducible rfl
          rotate_left
          · simp only [Act.put, List.setIfInBounds_toArray, List.set_cons_zero, List.set_cons_succ, i64_w, i32_w]
            rfl
          refine one_ (i := 11) (N := (some 25)) #[true, true, true, true, true, true, true, true, true, true, true, true, false] rfl rfl (by kernel_rfl) (by decide) (fun K hK => ?_)
          refine value_ (w1 := ?_) (v := ?_) (by rfl) rfl ?_ ?_
          rotate_left 2
          · (go_simp; constructor <;> rfl)
          refine hK.out _ _ (KS.out _ (HK3.out.alloc _)) (fun hHeld => ?_)
          clear hK K
          refine norm_ (a' := ?_) ?_ ?_
          rotate_left
          · show Act.put _ (some 25) _ = _
            simp only [Act.put, List.setIfInBounds_toArray, List.set_cons_zero, List.set_cons_succ, i64_w, i32_w]
            rfl
          refine pure_ (i := 12) (N := some 5) (v := ?_) (a' := ?_) #[true, true, true, true, true, true, true, true, true, true, true, true, true] rfl rfl (by kernel_rfl) (fun _ _ _ h => h) (Or.inl ⟨by rfl, ?_⟩) ?_ ?_
          rotate_left
          · intro w'
            go_simp
            with_reducible rfl
          rotate_left
          · simp only [Act.put, List.setIfInBounds_toArray, List.set_cons_zero, List.set_cons_succ, i64_w, i32_w]
            rfl
          refine done_ (by kernel_rfl) ?_
          go_wp2_with fail
          go_meet
          have a1 : (w2.alloc (.cells (madeCells #[.int .i64 0] P.length) 3 (0, 0))).heap.size = w2.heap.size + 1 := by simp
          have a2 : ((w2.alloc (.cells (madeCells #[.int .i64 0] P.length) 3 (0, 0))).alloc (.cells (madeCells #[.bool false] T.length) 4 (0, 0))).heap.size = w2.heap.size + 1 + 1 := by simp
          have a3 : (((w2.alloc (.cells (madeCells #[.int .i64 0] P.length) 3 (0, 0))).alloc (.cells (madeCells #[.bool false] T.length) 4 (0, 0))).alloc (.map #[] 0)).heap.size = w2.heap.size + 1 + 1 + 1 := by simp
          have fn := Blk.here w2 3 (madeCells #[.int .i64 0] P.length)
          replace fn := fn.alloc (.cells (madeCells #[.bool false] T.length) 4 (0, 0))
          replace fn := fn.alloc (.map #[] 0)
          replace fn := fn.alloc (.cells #[.slice A0 P.length c0, .slice A1 T.length c1, .map (some (w2.heap.size + 1 + 1)), .slice (some ⟨w2.heap.size + 1, 0, none⟩) T.length T.length, .slice (some ⟨w2.heap.size, 0, none⟩) P.length P.length, .slice none 0 0, .slice none 0 0, .slice none 0 0, .slice none 0 0, .slice none 0 0] 96 (0, 0))
          replace fn := fn.drew
          have fm := Blk.here (w2.alloc (.cells (madeCells #[.int .i64 0] P.length) 3 (0, 0))) 4 (madeCells #[.bool false] T.length)
          rw [a1] at fm
          replace fm := fm.alloc (.map #[] 0)
          replace fm := fm.alloc (.cells #[.slice A0 P.length c0, .slice A1 T.length c1, .map (some (w2.heap.size + 1 + 1)), .slice (some ⟨w2.heap.size + 1, 0, none⟩) T.length T.length, .slice (some ⟨w2.heap.size, 0, none⟩) P.length P.length, .slice none 0 0, .slice none 0 0, .slice none 0 0, .slice none 0 0, .slice none 0 0] 96 (0, 0))
          replace fm := fm.drew
          have fe := World.ownsMap_made (H := Unit) ((w2.alloc (.cells (madeCells #[.int .i64 0] P.length) 3 (0, 0))).alloc (.cells (madeCells #[.bool false] T.length) 4 (0, 0))) Tryd.prog 107 (plainElem Tryd.prog 3)
          rw [a2] at fe
          replace fe := fe.alloc (.cells #[.slice A0 P.length c0, .slice A1 T.length c1, .map (some (w2.heap.size + 1 + 1)), .slice (some ⟨w2.heap.size + 1, 0, none⟩) T.length T.length, .slice (some ⟨w2.heap.size, 0, none⟩) P.length P.length, .slice none 0 0, .slice none 0 0, .slice none 0 0, .slice none 0 0, .slice none 0 0] 96 (0, 0))
          replace fe := fe.drew
          have fb := (Blk.here (((w2.alloc (.cells (madeCells #[.int .i64 0] P.length) 3 (0, 0))).alloc (.cells (madeCells #[.bool false] T.length) 4 (0, 0))).alloc (.map #[] 0)) 96 #[.slice A0 P.length c0, .slice A1 T.length c1, .map (some (w2.heap.size + 1 + 1)), .slice (some ⟨w2.heap.size + 1, 0, none⟩) T.length T.length, .slice (some ⟨w2.heap.size, 0, none⟩) P.length P.length, .slice none 0 0, .slice none 0 0, .slice none 0 0, .slice none 0 0, .slice none 0 0]).drew
          rw [a3] at fb
          have hgs := HM.out.lt
          exact ⟨_, rfl, Lib.hid ⟨((((HB.out.alloc (Nat.le_of_lt HK0.out.2) (.cells (madeCells #[.int .i64 0] P.length) 3 (0, 0))).alloc (Nat.le_of_lt HK1.out.2) (.cells (madeCells #[.bool false] T.length) 4 (0, 0))).alloc (Nat.le_of_lt HK2.out.2) (.map #[] 0)).alloc (Nat.le_of_lt HK3.out.2) (.cells #[.slice A0 P.length c0, .slice A1 T.length c1, .map (some (w2.heap.size + 1 + 1)), .slice (some ⟨w2.heap.size + 1, 0, none⟩) T.length T.length, .slice (some ⟨w2.heap.size, 0, none⟩) P.length P.length, .slice none 0 0, .slice none 0 0, .slice none 0 0, .slice none 0 0, .slice none 0 0] 96 (0, 0))).drew, ((((HM.out.alloc (.cells (madeCells #[.int .i64 0] P.length) 3 (0, 0))).alloc (.cells (madeCells #[.bool false] T.length) 4 (0, 0))).alloc (.map #[] 0)).alloc (.cells #[.slice A0 P.length c0, .slice A1 T.length c1, .map (some (w2.heap.size + 1 + 1)), .slice (some ⟨w2.heap.size + 1, 0, none⟩) T.length T.length, .slice (some ⟨w2.heap.size, 0, none⟩) P.length P.length, .slice none 0 0, .slice none 0 0, .slice none 0 0, .slice none 0 0, .slice none 0 0] 96 (0, 0))).drew, ((((hG3.out.alloc (.cells (madeCells #[.int .i64 0] P.length) 3 (0, 0))).alloc (.cells (madeCells #[.bool false] T.length) 4 (0, 0))).alloc (.map #[] 0)).alloc (.cells #[.slice A0 P.length c0, .slice A1 T.length c1, .map (some (w2.heap.size + 1 + 1)), .slice (some ⟨w2.heap.size + 1, 0, none⟩) T.length T.length, .slice (some ⟨w2.heap.size, 0, none⟩) P.length P.length, .slice none 0 0, .slice none 0 0, .slice none 0 0, .slice none 0 0, .slice none 0 0] 96 (0, 0))).drew, w2.heap.size + 1 + 1, w2.heap.size + 1, w2.heap.size, fb, by omega, by omega, by omega, by omega, fe, fm, fn⟩⟩
    case rest =>
      obtain ⟨b, rfl, hC⟩ := hcut
      obtain ⟨hb4, hm4, hG4, e, gm, gn, hp⟩ := hC.out
      clear x0 x1 hmk1 hmk2 hmm KS HK0
      have x1 : wc.cell? ⟨gb, 1, none⟩ = some (.slice A1 T.length c1) := hm4.cell 1
      replace hb4 := Lib.hid hb4
      replace hp := Lib.hid hp
      clear hC hG4 hG3 HM HB
      go_wp2_with fail
      clear x1
      go_loopw [29] (fun v wr => ∃ i : Nat, v = .int .i64 (i : Int) ∧ i ≤ T.length ∧ Hid (Below gb w wr ∧ Pre wr gb b A0 c0 A1 c1 P T e (3 * i) (datE (edgesU T i)) gm gn)) (fun v _ => T.length - (intOf v).toNat)
      case atStart => exact ⟨0, rfl, Nat.zero_le _, Lib.hid ⟨hb4.out, hp.out⟩⟩
      case round =>
        clear hb4 hp hm4
        obtain ⟨i, rfl, hi, hR⟩ := hrel
        by_cases hlt : i < T.length
        · have dl : decide ((i : Int) < (T.length : Int)) = true := decide_eq_true (by omega)
          obtain ⟨hb5, hp5⟩ := hR.out
          obtain ⟨ad1, e1, y0, y1, y2⟩ := at_T47 (Kd.C_below hr1 (by rw [hgb.out]; exact hb5)) (i : Int) (by omega) (by omega)
          cases e1
          have hq3 : rd_T47 T (i : Int) = T.getD i z47 := by unfold rd_T47; rw [Int.toNat_natCast]
          rw [hq3, Int.toNat_natCast] at y0 y1 y2
          have hb8 := hS.out.rng hlt (v := (T.getD i z47).f0) (by simp [Fan.has3, trs, trT])
          have hb9 := hS.out.rng hlt (v := (T.getD i z47).f1) (by simp [Fan.has3, trs, trT])
          have hb10 := hS.out.rng hlt (v := (T.getD i z47).f2) (by simp [Fan.has3, trs, trT])
          have hwq : Hid ((Lit.int .i64 (T.getD i z47).f0).wf = true ∧ (Lit.int .i64 (T.getD i z47).f1).wf = true ∧ (Lit.int .i64 (T.getD i z47).f2).wf = true) := Lib.hid ⟨wfp hb8 hP4, wfp hb9 hP4, wfp hb10 hP4⟩
          have hq : Hid (T.getD i z47 = T.getD i z47) := Lib.hid rfl
          generalize hqe : T.getD i z47 = q at *
          replace hqe := Lib.hid hqe
          have pi1 : ((0 : Int) ≤ (i : Int)) = True := eq_true (by omega)
          have pi2 : ((i : Int) < (T.length : Int)) = True := eq_true (by omega)
          have hN6 := Lib.hid (And.intro (hb5.alloc (by rw [← hgb.out]; rw [hgb.out]; exact Nat.le_trans hp5.bb (Nat.le_of_lt hp5.blk.lt)) (.cells #[.int .i64 q.f0, .int .i64 q.f1, .int .i64 q.f2] 47 (0, 0))) (And.intro (Blk.here wr 47 #[.int .i64 q.f0, .int .i64 q.f1, .int .i64 q.f2]) (hp5.alloc (.cells #[.int .i64 q.f0, .int .i64 q.f1, .int .i64 q.f2] 47 (0, 0)))))
          clear hR hb5 hp5 hb8 hb9 hb10 hq3 hq
          go_wp2_with fail
          generalize wr.alloc (.cells #[.int .i64 q.f0, .int .i64 q.f1, .int .i64 q.f2] 47 (0, 0)) = w6 at *
          generalize wr.heap.size = gt at *
          clear y0 y1 y2
          go_loopw [34] (fun v wr2 => ∃ k : Int, v = .int .i64 k ∧ (k = 0 ∨ k = 1 ∨ k = 2 ∨ k = 3) ∧ Hid (Below gb w wr2 ∧ Blk wr2 gt 47 #[.int .i64 q.f0, .int .i64 q.f1, .int .i64 q.f2] ∧ Pre wr2 gb b A0 c0 (some ad1) c1 P T e (3 * i + k.toNat) (datE (upto T i q k.toNat)) gm gn)) (fun v _ => 3 - (intOf v).toNat)
          case atStart => exact ⟨0, rfl, .inl rfl, Lib.hid ⟨hN6.out.1, hN6.out.2.1, by
            rw [show upto T i q (Int.toNat 0) = edgesU T i by simp [upto]]
            exact hN6.out.2.2⟩⟩
          case round =>
            clear hN6
            obtain ⟨k, rfl, hk, hK⟩ := hrel
            replace hwq := hwq.out
            have tm1 : (wrap64 1).tmod 3 = 1 := by kernel_rfl
            have tm2 : (wrap64 2).tmod 3 = 2 := by kernel_rfl
            have tm3 : (wrap64 3).tmod 3 = 0 := by kernel_rfl
            rcases hk with rfl | rfl | rfl | rfl
            · obtain ⟨hb7, ht7, hp7⟩ := hK.out
              have t0 : wr.cell? ⟨gt, 0, none⟩ = some (.int .i64 q.f0) := ht7.cell 0
              have t1 : wr.cell? ⟨gt, 1, none⟩ = some (.int .i64 q.f1) := ht7.cell 1
              have x2 : wr.cell? ⟨b, 2, none⟩ = some (.map (some e)) := hp7.blk.cell 2
              have hkl := kE_key (a := q.f0) (b := q.f1) hwq.1 hwq.2.1
              obtain ⟨D, hD⟩ : ∃ D, D = datE (upto T i q (Int.toNat 0)) := ⟨_, rfl⟩
              obtain ⟨kl, hklE⟩ : ∃ kl, kl = kE (q.f0, q.f1) := ⟨_, rfl⟩
              have own7 := hp7.map.drew
              rw [← hD] at own7
              rw [← hklE] at hkl
              replace hD := Lib.hid hD
              replace hklE := Lib.hid hklE
              replace hb7 := Lib.hid hb7
              replace ht7 := Lib.hid ht7
              replace hp7 := Lib.hid hp7
              clear hK
              go_upto_region 11 with fail
              have KT := Lib.hid (show wr.drew.cell? ⟨b, 2, none⟩ = some (.map (some e)) ∧ wr.drew.cell? ⟨gt, 0, none⟩ = some (.int .i64 q.f0) ∧ wr.drew.cell? ⟨gt, 1, none⟩ = some (.int .i64 q.f1) from ⟨x2, t0, t1⟩)
              have hne9 : Hid (some gt ≠ some e ∧ some b ≠ some e ∧ some gm ≠ some e ∧ some gn ≠ some e) := Lib.hid (by
                have hmm : ∀ (g t : Nat) (cs : Array Value), Blk wr g t cs → some g ≠ some e := fun g t cs hg ee => by
                  obtain ⟨es, clock, hm9, _⟩ := hp7.out.map
                  rw [← Option.some.inj ee] at hm9
                  rw [show wr.heap[g]? = some (.cells cs t (0, 0)) from hg] at hm9
                  cases hm9
                exact ⟨hmm _ _ _ ht7.out, hmm _ _ _ hp7.out.blk, hmm _ _ _ hp7.out.met, hmm _ _ _ hp7.out.num⟩)
              clear x2 t0 t1
              refine start_ (n := 15) (S := fun w' => w'.cell? ⟨b, 2, none⟩ = some (.map (some e)) ∧ w'.cell? ⟨gt, 0, none⟩ = some (.int .i64 q.f0) ∧ w'.cell? ⟨gt, 1, none⟩ = some (.int .i64 q.f1)) (ds := [14]) #[false, false, false, false, false, false, false, false, false, false, false, false, false, false, false] (by kernel_rfl) rfl rfl KT.out (fun hHeld => ?_)
              refine pure_ (i := 0) (N := some 37) (v := ?_) (a' := ?_) #[true, false, false, false, false, false, false, false, false, false, false, false, false, false, false] rfl rfl (by kernel_rfl) (fun _ _ _ h => h) (Or.inl ⟨by rfl, ?_⟩) ?_ ?_
              rotate_left
              · intro w'
                go_simp
                with_reducible rfl
              rotate_left
              · simp only [Act.put, List.setIfInBounds_toArray, List.set_cons_zero, List.set_cons_succ, i64_w, i32_w]
                rfl
              refine pure_ (i := 1) (N := some 38) (v := ?_) (a' := ?_) #[true, true, false, false, false, false, false, false, false, false, false, false, false, false, false] rfl rfl (by kernel_rfl) (fun _ _ _ h => h) (Or.inl ⟨by rfl, ?_⟩) ?_ ?_
              rotate_left
              · intro w'
                go_simp
                with_reducible rfl
              rotate_left
              · simp only [Act.put, List.setIfInBounds_toArray, List.set_cons_zero, List.set_cons_succ, i64_w, i32_w]
                rfl
              refine pure_ (i := 2) (N := some 39) (v := ?_) (a' := ?_) #[true, true, true, false, false, false, false, false, false, false, false, false, false, false, false] rfl rfl (by kernel_rfl) (fun _ _ _ h => h) (Or.inl ⟨by rfl, ?_⟩) ?_ ?_
              rotate_left
              · intro w'
                go_simp
                with_reducible rfl
              rotate_left
              · simp only [Act.put, List.setIfInBounds_toArray, List.set_cons_zero, List.set_cons_succ, i64_w, i32_w]
                rfl
              refine take_ (i := 3) (N := some 40) (v := ?_) (a' := ?_) #[true, true, true, true, false, false, false, false, false, false, false, false, false, false, false] rfl rfl (by kernel_rfl) (fun _ _ _ h => h) (Or.inl ⟨by rfl, ?_⟩) hHeld ?_ ?_
              rotate_left
              · rintro w' ⟨s0, s1, s2⟩
                go_simp
                with_reducible rfl
              rotate_left
              · simp only [Act.put, List.setIfInBounds_toArray, List.set_cons_zero, List.set_cons_succ, i64_w, i32_w]
                rfl
              refine pure_ (i := 4) (N := some 41) (v := ?_) (a' := ?_) #[true, true, true, true, true, false, false, false, false, false, false, false, false, false, false] rfl rfl (by kernel_rfl) (fun _ _ _ h => h) (Or.inl ⟨by rfl, ?_⟩) ?_ ?_
              rotate_left
              · intro w'
                go_simp
                with_reducible rfl
              rotate_left
              · simp only [Act.put, List.setIfInBounds_toArray, List.set_cons_zero, List.set_cons_succ, i64_w, i32_w]
                rfl
              refine pure_ (i := 5) (N := some 42) (v := ?_) (a' := ?_) #[true, true, true, true, true, true, false, false, false, false, false, false, false, false, false] rfl rfl (by kernel_rfl) (fun _ _ _ h => h) (Or.inl ⟨by rfl, ?_⟩) ?_ ?_
              rotate_left
              · intro w'
                go_simp
                with_reducible rfl
              rotate_left
              · simp only [Act.put, List.setIfInBounds_toArray, List.set_cons_zero, List.set_cons_succ, i64_w, i32_w]
                rfl
              refine take_ (i := 6) (N := some 43) (v := ?_) (a' := ?_) #[true, true, true, true, true, true, true, false, false, false, false, false, false, false, false] rfl rfl (by kernel_rfl) (fun _ _ _ h => h) (Or.inl ⟨by rfl, ?_⟩) hHeld ?_ ?_
              rotate_left
              · rintro w' ⟨s0, s1, s2⟩
                go_simp
                with_reducible rfl
              rotate_left
              · simp only [Act.put, List.setIfInBounds_toArray, List.set_cons_zero, List.set_cons_succ, i64_w, i32_w]
                rfl
              refine pure_ (i := 7) (N := some 44) (v := ?_) (a' := ?_) #[true, true, true, true, true, true, true, true, false, false, false, false, false, false, false] rfl rfl (by kernel_rfl) (fun _ _ _ h => h) (Or.inl ⟨by rfl, ?_⟩) ?_ ?_
              rotate_left
              · intro w'
                go_simp
                with_reducible rfl
              rotate_left
              · simp only [Act.put, List.setIfInBounds_toArray, List.set_cons_zero, List.set_cons_succ, i64_w, i32_w]
                rfl
              refine pure_ (i := 8) (N := some 45) (v := ?_) (a' := ?_) #[true, true, true, true, true, true, true, true, true, false, false, false, false, false, false] rfl rfl (by kernel_rfl) (fun _ _ _ h => h) (Or.inl ⟨by rfl, ?_⟩) ?_ ?_
              rotate_left
              · intro w'
                go_simp
                with_reducible rfl
              rotate_left
              · simp only [Act.put, List.setIfInBounds_toArray, List.set_cons_zero, List.set_cons_succ, i64_w, i32_w]
                rfl
              refine pure_ (i := 9) (N := some 46) (v := ?_) (a' := ?_) #[true, true, true, true, true, true, true, true, true, true, false, false, false, false, false] rfl rfl (by kernel_rfl) (fun _ _ _ h => h) (Or.inl ⟨by rfl, ?_⟩) ?_ ?_
              rotate_left
              · intro w'
                go_simp
                with_reducible rfl
              rotate_left
              · simp only [Act.put, List.setIfInBounds_toArray, List.set_cons_zero, List.set_cons_succ, i64_w, i32_w]
                rfl
              refine pure_ (i := 10) (N := some 47) (v := ?_) (a' := ?_) #[true, true, true, true, true, true, true, true, true, true, true, false, false, false, false] rfl rfl (by kernel_rfl) (fun _ _ _ h => h) (Or.inl ⟨by rfl, ?_⟩) ?_ ?_
              rotate_left
              · intro w'
                go_simp
                with_reducible rfl
              rotate_left
              · simp only [Act.put, List.setIfInBounds_toArray, List.set_cons_zero, List.set_cons_succ, i64_w, i32_w]
                rfl
              refine take_ (i := 11) (N := some 48) (v := ?_) (a' := ?_) #[true, true, true, true, true, true, true, true, true, true, true, true, false, false, false] rfl rfl (by kernel_rfl) (fun _ _ _ h => h) (Or.inl ⟨by rfl, ?_⟩) hHeld ?_ ?_
              rotate_left
              · rintro w' ⟨s0, s1, s2⟩
                go_simp
                with_reducible rfl
              rotate_left
              · simp only [Act.put, List.setIfInBounds_toArray, List.set_cons_zero, List.set_cons_succ, i64_w, i32_w]
                rfl
              refine pure_ (i := 12) (N := some 49) (v := ?_) (a' := ?_) #[true, true, true, true, true, true, true, true, true, true, true, true, true, false, false] rfl rfl (by kernel_rfl) (fun _ _ _ h => h) (Or.inl ⟨by rfl, ?_⟩) ?_ ?_
              rotate_left
              · intro w'
                go_simp
                with_reducible rfl
              rotate_left
              · simp only [Act.put, List.setIfInBounds_toArray, List.set_cons_zero, List.set_cons_succ, i64_w, i32_w]
                rfl
              refine pure_ (i := 13) (N := some 50) (v := ?_) (a' := ?_) #[true, true, true, true, true, true, true, true, true, true, true, true, true, true, false] rfl rfl (by kernel_rfl) (fun _ _ _ h => h) (Or.inl ⟨by rfl, ?_⟩) ?_ ?_
              rotate_left
              · intro w'
                go_simp
                with_reducible rfl
              rotate_left
              · simp only [Act.put, List.setIfInBounds_toArray, List.set_cons_zero, List.set_cons_succ, i64_w, i32_w]
                rfl
              refine last_ (i := 14) (N := none) #[true, true, true, true, true, true, true, true, true, true, true, true, true, true, true] rfl rfl (by kernel_rfl) (by decide) (fun K hK => ?_)
              refine mapUpdate_step (H := Unit) wr.drew (by rfl) rfl (.tmp 40) (.tmp 49) (.tmp 50) 94 (by rfl) 107 3 lawE Tryd.underlying94 (plainElem Tryd.prog 3) e _ D (by rfl) own7 (by unfold maxLen; omega) (.agg #[.int .i64 q.f0, .int .i64 q.f1]) (.int .i64 (i : Int)) kl (by rfl) (by rfl) hkl (.lit (.int .i64 (i : Int))) [] (plainElem_int Tryd.underlying3 (WalkArith.wf_i64 (by omega))) ?_
              intro w9 own9 hgr9
              refine hK.out _ _ ?_
              clear hK K
              refine done_ (by kernel_rfl) ?_
              have hN9 := Lib.hid (show Below gb w w9 ∧ Blk w9 gt 47 #[.int .i64 q.f0, .int .i64 q.f1, .int .i64 q.f2] ∧ Pre w9 gb b A0 c0 (some ad1) c1 P T e (3 * i + Int.toNat 1) (datE (upto T i q (Int.toNat 1))) gm gn from
                ⟨hb7.out.drew.grown hgr9 (Nat.le_of_lt (Nat.lt_of_le_of_lt hp7.out.bb hp7.out.blk.lt)) (fun j hj => by cases hj; exact hp7.out.be), ht7.out.drew.grown hgr9 hne9.out.1, (hp7.out.blk.drew).grown hgr9 hne9.out.2.1, hp7.out.bb, hp7.out.be, hp7.out.bm, hp7.out.bn, by
                  rw [show upto T i q (Int.toNat 1) = upto T i q (Int.toNat 0) ++ [((q.f0, q.f1), (i : Int))] by simp [upto, edgeL], datE_snoc, ← hD.out, ← hklE.out]
                  exact own9, (hp7.out.met.drew).grown hgr9 hne9.out.2.2.1, (hp7.out.num.drew).grown hgr9 hne9.out.2.2.2⟩)
              clear own9 hgr9
              go_wp2_with fail
              exact ⟨⟨1, rfl, .inr (.inl rfl), hN9⟩, by decide⟩
            · obtain ⟨hb7, ht7, hp7⟩ := hK.out
              have t0 : wr.cell? ⟨gt, 1, none⟩ = some (.int .i64 q.f1) := ht7.cell 1
              have t1 : wr.cell? ⟨gt, 2, none⟩ = some (.int .i64 q.f2) := ht7.cell 2
              have x2 : wr.cell? ⟨b, 2, none⟩ = some (.map (some e)) := hp7.blk.cell 2
              have hkl := kE_key (a := q.f1) (b := q.f2) hwq.2.1 hwq.2.2
              obtain ⟨D, hD⟩ : ∃ D, D = datE (upto T i q (Int.toNat 1)) := ⟨_, rfl⟩
              obtain ⟨kl, hklE⟩ : ∃ kl, kl = kE (q.f1, q.f2) := ⟨_, rfl⟩
              have own7 := hp7.map.drew
              rw [← hD] at own7
              rw [← hklE] at hkl
              replace hD := Lib.hid hD
              replace hklE := Lib.hid hklE
              replace hb7 := Lib.hid hb7
              replace ht7 := Lib.hid ht7
              replace hp7 := Lib.hid hp7
              clear hK
              go_upto_region 11 with fail
              have KT := Lib.hid (show wr.drew.cell? ⟨b, 2, none⟩ = some (.map (some e)) ∧ wr.drew.cell? ⟨gt, 1, none⟩ = some (.int .i64 q.f1) ∧ wr.drew.cell? ⟨gt, 2, none⟩ = some (.int .i64 q.f2) from ⟨x2, t0, t1⟩)
              have hne9 : Hid (some gt ≠ some e ∧ some b ≠ some e ∧ some gm ≠ some e ∧ some gn ≠ some e) := Lib.hid (by
                have hmm : ∀ (g t : Nat) (cs : Array Value), Blk wr g t cs → some g ≠ some e := fun g t cs hg ee => by
                  obtain ⟨es, clock, hm9, _⟩ := hp7.out.map
                  rw [← Option.some.inj ee] at hm9
                  rw [show wr.heap[g]? = some (.cells cs t (0, 0)) from hg] at hm9
                  cases hm9
                exact ⟨hmm _ _ _ ht7.out, hmm _ _ _ hp7.out.blk, hmm _ _ _ hp7.out.met, hmm _ _ _ hp7.out.num⟩)
              clear x2 t0 t1
              refine start_ (n := 15) (S := fun w' => w'.cell? ⟨b, 2, none⟩ = some (.map (some e)) ∧ w'.cell? ⟨gt, 1, none⟩ = some (.int .i64 q.f1) ∧ w'.cell? ⟨gt, 2, none⟩ = some (.int .i64 q.f2)) (ds := [14]) #[false, false, false, false, false, false, false, false, false, false, false, false, false, false, false] (by kernel_rfl) rfl rfl KT.out (fun hHeld => ?_)
              refine pure_ (i := 0) (N := some 37) (v := ?_) (a' := ?_) #[true, false, false, false, false, false, false, false, false, false, false, false, false, false, false] rfl rfl (by kernel_rfl) (fun _ _ _ h => h) (Or.inl ⟨by rfl, ?_⟩) ?_ ?_
              rotate_left
              · intro w'
                go_simp
                with_reducible rfl
              rotate_left
              · simp only [Act.put, List.setIfInBounds_toArray, List.set_cons_zero, List.set_cons_succ, i64_w, i32_w]
                rfl
              refine pure_ (i := 1) (N := some 38) (v := ?_) (a' := ?_) #[true, true, false, false, false, false, false, false, false, false, false, false, false, false, false] rfl rfl (by kernel_rfl) (fun _ _ _ h => h) (Or.inl ⟨by rfl, ?_⟩) ?_ ?_
              rotate_left
              · intro w'
                go_simp
                with_reducible rfl
              rotate_left
              · simp only [Act.put, List.setIfInBounds_toArray, List.set_cons_zero, List.set_cons_succ, i64_w, i32_w]
                rfl
              refine pure_ (i := 2) (N := some 39) (v := ?_) (a' := ?_) #[true, true, true, false, false, false, false, false, false, false, false, false, false, false, false] rfl rfl (by kernel_rfl) (fun _ _ _ h => h) (Or.inl ⟨by rfl, ?_⟩) ?_ ?_
              rotate_left
              · intro w'
                go_simp
                with_reducible rfl
              rotate_left
              · simp only [Act.put, List.setIfInBounds_toArray, List.set_cons_zero, List.set_cons_succ, i64_w, i32_w]
                rfl
              refine take_ (i := 3) (N := some 40) (v := ?_) (a' := ?_) #[true, true, true, true, false, false, false, false, false, false, false, false, false, false, false] rfl rfl (by kernel_rfl) (fun _ _ _ h => h) (Or.inl ⟨by rfl, ?_⟩) hHeld ?_ ?_
              rotate_left
              · rintro w' ⟨s0, s1, s2⟩
                go_simp
                with_reducible rfl
              rotate_left
              · simp only [Act.put, List.setIfInBounds_toArray, List.set_cons_zero, List.set_cons_succ, i64_w, i32_w]
                rfl
              refine pure_ (i := 4) (N := some 41) (v := ?_) (a' := ?_) #[true, true, true, true, true, false, false, false, false, false, false, false, false, false, false] rfl rfl (by kernel_rfl) (fun _ _ _ h => h) (Or.inl ⟨by rfl, ?_⟩) ?_ ?_
              rotate_left
              · intro w'
                go_simp
                with_reducible rfl
              rotate_left
              · simp only [Act.put, List.setIfInBounds_toArray, List.set_cons_zero, List.set_cons_succ, i64_w, i32_w]
                rfl
              refine pure_ (i := 5) (N := some 42) (v := ?_) (a' := ?_) #[true, true, true, true, true, true, false, false, false, false, false, false, false, false, false] rfl rfl (by kernel_rfl) (fun _ _ _ h => h) (Or.inl ⟨by rfl, ?_⟩) ?_ ?_
              rotate_left
              · intro w'
                go_simp
                with_reducible rfl
              rotate_left
              · simp only [Act.put, List.setIfInBounds_toArray, List.set_cons_zero, List.set_cons_succ, i64_w, i32_w]
                rfl
              refine take_ (i := 6) (N := some 43) (v := ?_) (a' := ?_) #[true, true, true, true, true, true, true, false, false, false, false, false, false, false, false] rfl rfl (by kernel_rfl) (fun _ _ _ h => h) (Or.inl ⟨by rfl, ?_⟩) hHeld ?_ ?_
              rotate_left
              · rintro w' ⟨s0, s1, s2⟩
                go_simp
                with_reducible rfl
              rotate_left
              · simp only [Act.put, List.setIfInBounds_toArray, List.set_cons_zero, List.set_cons_succ, i64_w, i32_w]
                rfl
              refine pure_ (i := 7) (N := some 44) (v := ?_) (a' := ?_) #[true, true, true, true, true, true, true, true, false, false, false, false, false, false, false] rfl rfl (by kernel_rfl) (fun _ _ _ h => h) (Or.inl ⟨by rfl, ?_⟩) ?_ ?_
              rotate_left
              · intro w'
                go_simp
                with_reducible rfl
              rotate_left
              · simp only [Act.put, List.setIfInBounds_toArray, List.set_cons_zero, List.set_cons_succ, i64_w, i32_w]
                rfl
              refine pure_ (i := 8) (N := some 45) (v := ?_) (a' := ?_) #[true, true, true, true, true, true, true, true, true, false, false, false, false, false, false] rfl rfl (by kernel_rfl) (fun _ _ _ h => h) (Or.inl ⟨by rfl, ?_⟩) ?_ ?_
              rotate_left
              · intro w'
                go_simp
                with_reducible rfl
              rotate_left
              · simp only [Act.put, List.setIfInBounds_toArray, List.set_cons_zero, List.set_cons_succ, i64_w, i32_w]
                rfl
              refine pure_ (i := 9) (N := some 46) (v := ?_) (a' := ?_) #[true, true, true, true, true, true, true, true, true, true, false, false, false, false, false] rfl rfl (by kernel_rfl) (fun _ _ _ h => h) (Or.inl ⟨by rfl, ?_⟩) ?_ ?_
              rotate_left
              · intro w'
                go_simp
                with_reducible rfl
              rotate_left
              · simp only [Act.put, List.setIfInBounds_toArray, List.set_cons_zero, List.set_cons_succ, i64_w, i32_w]
                rfl
              refine pure_ (i := 10) (N := some 47) (v := ?_) (a' := ?_) #[true, true, true, true, true, true, true, true, true, true, true, false, false, false, false] rfl rfl (by kernel_rfl) (fun _ _ _ h => h) (Or.inl ⟨by rfl, ?_⟩) ?_ ?_
              rotate_left
              · intro w'
                go_simp
                with_reducible rfl
              rotate_left
              · simp only [Act.put, List.setIfInBounds_toArray, List.set_cons_zero, List.set_cons_succ, i64_w, i32_w]
                rfl
              refine take_ (i := 11) (N := some 48) (v := ?_) (a' := ?_) #[true, true, true, true, true, true, true, true, true, true, true, true, false, false, false] rfl rfl (by kernel_rfl) (fun _ _ _ h => h) (Or.inl ⟨by rfl, ?_⟩) hHeld ?_ ?_
              rotate_left
              · rintro w' ⟨s0, s1, s2⟩
                go_simp
                with_reducible rfl
              rotate_left
              · simp only [Act.put, List.setIfInBounds_toArray, List.set_cons_zero, List.set_cons_succ, i64_w, i32_w]
                rfl
              refine pure_ (i := 12) (N := some 49) (v := ?_) (a' := ?_) #[true, true, true, true, true, true, true, true, true, true, true, true, true, false, false] rfl rfl (by kernel_rfl) (fun _ _ _ h => h) (Or.inl ⟨by rfl, ?_⟩) ?_ ?_
              rotate_left
              · intro w'
                go_simp
                with_reducible rfl
              rotate_left
              · simp only [Act.put, List.setIfInBounds_toArray, List.set_cons_zero, List.set_cons_succ, i64_w, i32_w]
                rfl
              refine pure_ (i := 13) (N := some 50) (v := ?_) (a' := ?_) #[true, true, true, true, true, true, true, true, true, true, true, true, true, true, false] rfl rfl (by kernel_rfl) (fun _ _ _ h => h) (Or.inl ⟨by rfl, ?_⟩) ?_ ?_
              rotate_left
              · intro w'
                go_simp
                with_reducible rfl
              rotate_left
              · simp only [Act.put, List.setIfInBounds_toArray, List.set_cons_zero, List.set_cons_succ, i64_w, i32_w]
                rfl
              refine last_ (i := 14) (N := none) #[true, true, true, true, true, true, true, true, true, true, true, true, true, true, true] rfl rfl (by kernel_rfl) (by decide) (fun K hK => ?_)
              refine mapUpdate_step (H := Unit) wr.drew (by rfl) rfl (.tmp 40) (.tmp 49) (.tmp 50) 94 (by rfl) 107 3 lawE Tryd.underlying94 (plainElem Tryd.prog 3) e _ D (by rfl) own7 (by unfold maxLen; omega) (.agg #[.int .i64 q.f1, .int .i64 q.f2]) (.int .i64 (i : Int)) kl (by rfl) (by rfl) hkl (.lit (.int .i64 (i : Int))) [] (plainElem_int Tryd.underlying3 (WalkArith.wf_i64 (by omega))) ?_
              intro w9 own9 hgr9
              refine hK.out _ _ ?_
              clear hK K
              refine done_ (by kernel_rfl) ?_
              have hN9 := Lib.hid (show Below gb w w9 ∧ Blk w9 gt 47 #[.int .i64 q.f0, .int .i64 q.f1, .int .i64 q.f2] ∧ Pre w9 gb b A0 c0 (some ad1) c1 P T e (3 * i + Int.toNat 2) (datE (upto T i q (Int.toNat 2))) gm gn from
                ⟨hb7.out.drew.grown hgr9 (Nat.le_of_lt (Nat.lt_of_le_of_lt hp7.out.bb hp7.out.blk.lt)) (fun j hj => by cases hj; exact hp7.out.be), ht7.out.drew.grown hgr9 hne9.out.1, (hp7.out.blk.drew).grown hgr9 hne9.out.2.1, hp7.out.bb, hp7.out.be, hp7.out.bm, hp7.out.bn, by
                  rw [show upto T i q (Int.toNat 2) = upto T i q (Int.toNat 1) ++ [((q.f1, q.f2), (i : Int))] by simp [upto, edgeL], datE_snoc, ← hD.out, ← hklE.out]
                  exact own9, (hp7.out.met.drew).grown hgr9 hne9.out.2.2.1, (hp7.out.num.drew).grown hgr9 hne9.out.2.2.2⟩)
              clear own9 hgr9
              go_wp2_with fail
              exact ⟨⟨2, rfl, .inr (.inr (.inl rfl)), hN9⟩, by decide⟩
            · obtain ⟨hb7, ht7, hp7⟩ := hK.out
              have t0 : wr.cell? ⟨gt, 2, none⟩ = some (.int .i64 q.f2) := ht7.cell 2
              have t1 : wr.cell? ⟨gt, 0, none⟩ = some (.int .i64 q.f0) := ht7.cell 0
              have x2 : wr.cell? ⟨b, 2, none⟩ = some (.map (some e)) := hp7.blk.cell 2
              have hkl := kE_key (a := q.f2) (b := q.f0) hwq.2.2 hwq.1
              obtain ⟨D, hD⟩ : ∃ D, D = datE (upto T i q (Int.toNat 2)) := ⟨_, rfl⟩
              obtain ⟨kl, hklE⟩ : ∃ kl, kl = kE (q.f2, q.f0) := ⟨_, rfl⟩
              have own7 := hp7.map.drew
              rw [← hD] at own7
              rw [← hklE] at hkl
              replace hD := Lib.hid hD
              replace hklE := Lib.hid hklE
              replace hb7 := Lib.hid hb7
              replace ht7 := Lib.hid ht7
              replace hp7 := Lib.hid hp7
              clear hK
              go_upto_region 11 with fail
              have KT := Lib.hid (show wr.drew.cell? ⟨b, 2, none⟩ = some (.map (some e)) ∧ wr.drew.cell? ⟨gt, 2, none⟩ = some (.int .i64 q.f2) ∧ wr.drew.cell? ⟨gt, 0, none⟩ = some (.int .i64 q.f0) from ⟨x2, t0, t1⟩)
              have hne9 : Hid (some gt ≠ some e ∧ some b ≠ some e ∧ some gm ≠ some e ∧ some gn ≠ some e) := Lib.hid (by
                have hmm : ∀ (g t : Nat) (cs : Array Value), Blk wr g t cs → some g ≠ some e := fun g t cs hg ee => by
                  obtain ⟨es, clock, hm9, _⟩ := hp7.out.map
                  rw [← Option.some.inj ee] at hm9
                  rw [show wr.heap[g]? = some (.cells cs t (0, 0)) from hg] at hm9
                  cases hm9
                exact ⟨hmm _ _ _ ht7.out, hmm _ _ _ hp7.out.blk, hmm _ _ _ hp7.out.met, hmm _ _ _ hp7.out.num⟩)
              clear x2 t0 t1
              refine start_ (n := 15) (S := fun w' => w'.cell? ⟨b, 2, none⟩ = some (.map (some e)) ∧ w'.cell? ⟨gt, 2, none⟩ = some (.int .i64 q.f2) ∧ w'.cell? ⟨gt, 0, none⟩ = some (.int .i64 q.f0)) (ds := [14]) #[false, false, false, false, false, false, false, false, false, false, false, false, false, false, false] (by kernel_rfl) rfl rfl KT.out (fun hHeld => ?_)
              refine pure_ (i := 0) (N := some 37) (v := ?_) (a' := ?_) #[true, false, false, false, false, false, false, false, false, false, false, false, false, false, false] rfl rfl (by kernel_rfl) (fun _ _ _ h => h) (Or.inl ⟨by rfl, ?_⟩) ?_ ?_
              rotate_left
              · intro w'
                go_simp
                with_reducible rfl
              rotate_left
              · simp only [Act.put, List.setIfInBounds_toArray, List.set_cons_zero, List.set_cons_succ, i64_w, i32_w]
                rfl
              refine pure_ (i := 1) (N := some 38) (v := ?_) (a' := ?_) #[true, true, false, false, false, false, false, false, false, false, false, false, false, false, false] rfl rfl (by kernel_rfl) (fun _ _ _ h => h) (Or.inl ⟨by rfl, ?_⟩) ?_ ?_
              rotate_left
              · intro w'
                go_simp
                with_reducible rfl
              rotate_left
              · simp only [Act.put, List.setIfInBounds_toArray, List.set_cons_zero, List.set_cons_succ, i64_w, i32_w]
                rfl
              refine pure_ (i := 2) (N := some 39) (v := ?_) (a' := ?_) #[true, true, true, false, false, false, false, false, false, false, false, false, false, false, false] rfl rfl (by kernel_rfl) (fun _ _ _ h => h) (Or.inl ⟨by rfl, ?_⟩) ?_ ?_
              rotate_left
              · intro w'
                go_simp
                with_reducible rfl
              rotate_left
              · simp only [Act.put, List.setIfInBounds_toArray, List.set_cons_zero, List.set_cons_succ, i64_w, i32_w]
                rfl
              refine take_ (i := 3) (N := some 40) (v := ?_) (a' := ?_) #[true, true, true, true, false, false, false, false, false, false, false, false, false, false, false] rfl rfl (by kernel_rfl) (fun _ _ _ h => h) (Or.inl ⟨by rfl, ?_⟩) hHeld ?_ ?_
              rotate_left
              · rintro w' ⟨s0, s1, s2⟩
                go_simp
                with_reducible rfl
              rotate_left
              · simp only [Act.put, List.setIfInBounds_toArray, List.set_cons_zero, List.set_cons_succ, i64_w, i32_w]
                rfl
              refine pure_ (i := 4) (N := some 41) (v := ?_) (a' := ?_) #[true, true, true, true, true, false, false, false, false, false, false, false, false, false, false] rfl rfl (by kernel_rfl) (fun _ _ _ h => h) (Or.inl ⟨by rfl, ?_⟩) ?_ ?_
              rotate_left
              · intro w'
                go_simp
                with_reducible rfl
              rotate_left
              · simp only [Act.put, List.setIfInBounds_toArray, List.set_cons_zero, List.set_cons_succ, i64_w, i32_w]
                rfl
              refine pure_ (i := 5) (N := some 42) (v := ?_) (a' := ?_) #[true, true, true, true, true, true, false, false, false, false, false, false, false, false, false] rfl rfl (by kernel_rfl) (fun _ _ _ h => h) (Or.inl ⟨by rfl, ?_⟩) ?_ ?_
              rotate_left
              · intro w'
                go_simp
                with_reducible rfl
              rotate_left
              · simp only [Act.put, List.setIfInBounds_toArray, List.set_cons_zero, List.set_cons_succ, i64_w, i32_w]
                rfl
              refine take_ (i := 6) (N := some 43) (v := ?_) (a' := ?_) #[true, true, true, true, true, true, true, false, false, false, false, false, false, false, false] rfl rfl (by kernel_rfl) (fun _ _ _ h => h) (Or.inl ⟨by rfl, ?_⟩) hHeld ?_ ?_
              rotate_left
              · rintro w' ⟨s0, s1, s2⟩
                go_simp
                with_reducible rfl
              rotate_left
              · simp only [Act.put, List.setIfInBounds_toArray, List.set_cons_zero, List.set_cons_succ, i64_w, i32_w]
                rfl
              refine pure_ (i := 7) (N := some 44) (v := ?_) (a' := ?_) #[true, true, true, true, true, true, true, true, false, false, false, false, false, false, false] rfl rfl (by kernel_rfl) (fun _ _ _ h => h) (Or.inl ⟨by rfl, ?_⟩) ?_ ?_
              rotate_left
              · intro w'
                go_simp
                with_reducible rfl
              rotate_left
              · simp only [Act.put, List.setIfInBounds_toArray, List.set_cons_zero, List.set_cons_succ, i64_w, i32_w]
                rfl
              refine pure_ (i := 8) (N := some 45) (v := ?_) (a' := ?_) #[true, true, true, true, true, true, true, true, true, false, false, false, false, false, false] rfl rfl (by kernel_rfl) (fun _ _ _ h => h) (Or.inl ⟨by rfl, ?_⟩) ?_ ?_
              rotate_left
              · intro w'
                go_simp
                with_reducible rfl
              rotate_left
              · simp only [Act.put, List.setIfInBounds_toArray, List.set_cons_zero, List.set_cons_succ, i64_w, i32_w]
                rfl
              refine pure_ (i := 9) (N := some 46) (v := ?_) (a' := ?_) #[true, true, true, true, true, true, true, true, true, true, false, false, false, false, false] rfl rfl (by kernel_rfl) (fun _ _ _ h => h) (Or.inl ⟨by rfl, ?_⟩) ?_ ?_
              rotate_left
              · intro w'
                go_simp
                with_reducible rfl
              rotate_left
              · simp only [Act.put, List.setIfInBounds_toArray, List.set_cons_zero, List.set_cons_succ, i64_w, i32_w]
                rfl
              refine pure_ (i := 10) (N := some 47) (v := ?_) (a' := ?_) #[true, true, true, true, true, true, true, true, true, true, true, false, false, false, false] rfl rfl (by kernel_rfl) (fun _ _ _ h => h) (Or.inl ⟨by rfl, ?_⟩) ?_ ?_
              rotate_left
              · intro w'
                go_simp
                with_reducible rfl
              rotate_left
              · simp only [Act.put, List.setIfInBounds_toArray, List.set_cons_zero, List.set_cons_succ, i64_w, i32_w]
                rfl
              refine take_ (i := 11) (N := some 48) (v := ?_) (a' := ?_) #[true, true, true, true, true, true, true, true, true, true, true, true, false, false, false] rfl rfl (by kernel_rfl) (fun _ _ _ h => h) (Or.inl ⟨by rfl, ?_⟩) hHeld ?_ ?_
              rotate_left
              · rintro w' ⟨s0, s1, s2⟩
                go_simp
                with_reducible rfl
              rotate_left
              · simp only [Act.put, List.setIfInBounds_toArray, List.set_cons_zero, List.set_cons_succ, i64_w, i32_w]
                rfl
              refine pure_ (i := 12) (N := some 49) (v := ?_) (a' := ?_) #[true, true, true, true, true, true, true, true, true, true, true, true, true, false, false] rfl rfl (by kernel_rfl) (fun _ _ _ h => h) (Or.inl ⟨by rfl, ?_⟩) ?_ ?_
              rotate_left
              · intro w'
                go_simp
                with_reducible rfl
              rotate_left
              · simp only [Act.put, List.setIfInBounds_toArray, List.set_cons_zero, List.set_cons_succ, i64_w, i32_w]
                rfl
              refine pure_ (i := 13) (N := some 50) (v := ?_) (a' := ?_) #[true, true, true, true, true, true, true, true, true, true, true, true, true, true, false] rfl rfl (by kernel_rfl) (fun _ _ _ h => h) (Or.inl ⟨by rfl, ?_⟩) ?_ ?_
              rotate_left
              · intro w'
                go_simp
                with_reducible rfl
              rotate_left
              · simp only [Act.put, List.setIfInBounds_toArray, List.set_cons_zero, List.set_cons_succ, i64_w, i32_w]
                rfl
              refine last_ (i := 14) (N := none) #[true, true, true, true, true, true, true, true, true, true, true, true, true, true, true] rfl rfl (by kernel_rfl) (by decide) (fun K hK => ?_)
              refine mapUpdate_step (H := Unit) wr.drew (by rfl) rfl (.tmp 40) (.tmp 49) (.tmp 50) 94 (by rfl) 107 3 lawE Tryd.underlying94 (plainElem Tryd.prog 3) e _ D (by rfl) own7 (by unfold maxLen; omega) (.agg #[.int .i64 q.f2, .int .i64 q.f0]) (.int .i64 (i : Int)) kl (by rfl) (by rfl) hkl (.lit (.int .i64 (i : Int))) [] (plainElem_int Tryd.underlying3 (WalkArith.wf_i64 (by omega))) ?_
              intro w9 own9 hgr9
              refine hK.out _ _ ?_
              clear hK K
              refine done_ (by kernel_rfl) ?_
              have hN9 := Lib.hid (show Below gb w w9 ∧ Blk w9 gt 47 #[.int .i64 q.f0, .int .i64 q.f1, .int .i64 q.f2] ∧ Pre w9 gb b A0 c0 (some ad1) c1 P T e (3 * i + Int.toNat 3) (datE (upto T i q (Int.toNat 3))) gm gn from
                ⟨hb7.out.drew.grown hgr9 (Nat.le_of_lt (Nat.lt_of_le_of_lt hp7.out.bb hp7.out.blk.lt)) (fun j hj => by cases hj; exact hp7.out.be), ht7.out.drew.grown hgr9 hne9.out.1, (hp7.out.blk.drew).grown hgr9 hne9.out.2.1, hp7.out.bb, hp7.out.be, hp7.out.bm, hp7.out.bn, by
                  rw [show upto T i q (Int.toNat 3) = upto T i q (Int.toNat 2) ++ [((q.f2, q.f0), (i : Int))] by simp [upto, edgeL], datE_snoc, ← hD.out, ← hklE.out]
                  exact own9, (hp7.out.met.drew).grown hgr9 hne9.out.2.2.1, (hp7.out.num.drew).grown hgr9 hne9.out.2.2.2⟩)
              clear own9 hgr9
              go_wp2_with fail
              exact ⟨⟨3, rfl, .inr (.inr (.inr rfl)), hN9⟩, by decide⟩
            · obtain ⟨hb7, ht7, hp7⟩ := hK.out
              have hN7 := Lib.hid (show Below gb w wr ∧ Pre wr gb b A0 c0 (some ad1) c1 P T e (3 * (i + 1)) (datE (edgesU T (i + 1))) gm gn from ⟨hb7, by
                rw [show 3 * (i + 1) = 3 * i + Int.toNat 3 by simp; omega, show edgesU T (i + 1) = upto T i q (Int.toNat 3) by rw [edgesU, hqe.out]; rfl]
                exact hp7⟩)
              clear hK hb7 ht7 hp7
              go_wp2_with fail
              exact ⟨⟨i + 1, by simp, by omega, hN7⟩, by simp [intOf]; omega⟩
        · have dl : decide ((i : Int) < (T.length : Int)) = false := decide_eq_false (by omega)
          have hil : i = T.length := by omega
          obtain ⟨hb5, hp5⟩ := hR.out
          rw [hil] at hp5
          have hSt : St [] (fun k => if k = gm then 2 else if k = gn then 3 else 9) wr gb b A0 c0 A1 c1 P T e (.slice (some ⟨gm, 0, none⟩) T.length T.length) (.slice (some ⟨gn, 0, none⟩) P.length P.length) (.slice none 0 0) (.slice none 0 0) (.slice none 0 0) (.slice none 0 0) (.slice none 0 0) WP.init := by
            refine ⟨hp5.blk, hp5.bb, hp5.be, hp5.map, fun _ => ?_, fun _ => ?_, fun _ => Kd.R_nil _ _ _ _ _, fun _ => Kd.R_nil _ _ _ _ _, fun _ => Kd.R_nil _ _ _ _ _, fun _ => Kd.R_nil _ _ _ _ _, fun _ => Kd.R_nil _ _ _ _ _⟩
            · exact R_made hp5.met hp5.bm (if_pos rfl) (by omega) (metL_len _ _) (fun x hx => by
                obtain ⟨y, _, rfl⟩ := List.mem_map.1 hx
                simp [WP.init])
            · exact R_made hp5.num hp5.bn (by
                have hne : gn ≠ gm := hp5.num.ne_ hp5.met (by decide)
                show (if gn = gm then 2 else if gn = gn then 3 else 9) = 3
                rw [if_neg hne, if_pos rfl]) (by omega) (numL_len _ _) (fun x hx => by
                obtain ⟨y, _, rfl⟩ := List.mem_map.1 hx
                simp [WP.init, fnd])
          have hAt : Hid (At w b A0 c0 A1 c1 P T e wr WP.init) := Lib.hid ⟨by rw [hgb.out]; exact hb5, _, _, _, _, _, _, _, _, by rw [hgb.out]; exact hSt⟩
          clear hSt
          clear hR hb5 hp5
          go_wp2_with fail
          go_ret2
          exact ⟨b, rfl, e, hAt.out⟩
  · have hrb : (r == 0) = false := by simpa using hr
    have hHr := Lib.hid hr
    clear hr x0 x1
    go_wp2_with fail
    go_ret2
    exact .inl ⟨hHr.out, rfl, by rw [hgb.out]; exact HB.out⟩
set_option maxHeartbeats 1000000 in
theorem walked57 (P : List S46) (T : List S47) (r : Int) (ht : MR.Told P T r) (A0 : Option Addr) (c0 : Nat) (A1 : Option Addr) (c1 : Nat) (w : World) (hr0 : Kd.C k46 w A0 P.length P) (hc0 : P.length ≤ c0) (hr1 : Kd.C k47 w A1 T.length T) (hc1 : T.length ≤ c1) (hG : Gl w) :
    Calls Tryd.prog 57 #[.agg #[.slice A0 P.length c0, .slice A1 T.length c1]] w fun en w' => (r ≠ 0 ∧ en = .returned (.tuple #[.pointer none, .int .i64 r]) ∧ Below w.heap.size w w') ∨ (r = 0 ∧ ∃ b, en = .returned (.tuple #[.pointer (some ⟨b, 0, none⟩), .int .i64 0]) ∧ ∃ w1, Below w.heap.size w w1 ∧ w.heap.size ≤ w1.heap.size ∧ ∃ e, At w1 b A0 c0 A1 c1 P T e w' (WP.fin (MC.look T) (trs T) T.length)) := by
  have hb := (Below.refl w.heap.size w).alloc (Nat.le_refl _) (.cells #[.slice A0 P.length c0, .slice A1 T.length c1] 25 (0, 0))
  have hm := Blk.here w 25 #[.slice A0 P.length c0, .slice A1 T.length c1]
  have hck := Lib.hid (begun77 P T r ht A0 c0 A1 c1 (w.alloc (.cells #[.slice A0 P.length c0, .slice A1 T.length c1] 25 (0, 0))) (Kd.C_below hr0 hb) hc0 (Kd.C_below hr1 hb) hc1 (hG.alloc _))
  have x0 : (w.alloc (.cells #[.slice A0 P.length c0, .slice A1 T.length c1] 25 (0, 0))).cell? ⟨w.heap.size, 0, none⟩ = some (.slice A0 P.length c0) := hm.cell 0
  have x1 : (w.alloc (.cells #[.slice A0 P.length c0, .slice A1 T.length c1] 25 (0, 0))).cell? ⟨w.heap.size, 1, none⟩ = some (.slice A1 T.length c1) := hm.cell 1
  have hC1 := Kd.C_below hr1 hb
  have hsz : w.heap.size ≤ (w.alloc (.cells #[.slice A0 P.length c0, .slice A1 T.length c1] 25 (0, 0))).heap.size := by simp
  have HT := Lib.hid ht
  clear ht hm
  go_enter Tryd.func57, Tryd.ntmps57
  go_wp2_with fail
  refine hck.out.mono ?_
  generalize w.alloc (.cells #[.slice A0 P.length c0, .slice A1 T.length c1] 25 (0, 0)) = w1 at *
  clear hck x0 x1
  rintro en w2 (⟨hr, rfl, hb2⟩ | ⟨rfl, b, rfl, e, hA⟩)
  · have hrb : (r == 0) = false := by simpa using hr
    have hHr := Lib.hid hr
    have HB := Lib.hid (hb.trans (hb2.mono hsz))
    clear hr hb2 hb hsz
    go_wp2_with fail
    go_ret2
    exact .inl ⟨hHr.out, rfl, HB.out⟩
  · have hw := Lib.hid (walk78 HT.out hC1 hA)
    have HB := Lib.hid (And.intro hb hsz)
    clear hA hb hsz
    go_wp2_with fail
    refine hw.out.mono ?_
    rintro en w3 ⟨rfl, hA3⟩
    have HA := Lib.hid hA3
    clear hA3 hw
    go_wp2_with fail
    go_ret2
    exact ⟨b, rfl, w1, HB.out.1, HB.out.2, e, HA.out⟩
end Go.Proofs.YtomknjmgcbbjlaaDoor.WW
