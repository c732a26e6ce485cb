/- The document's Decode, whole. -/
import Derived.Test.YtmfeokapjmpjfaaArcRef2
namespace Go.Proofs.Ytmfeokapjmpjfaa.ArcW
open Go Go.RowKit Go.Proofs.Ytmfeokapjmpjfaa.Mem Go.Proofs.Ytmfeokapjmpjfaa.VM Go.Proofs.Ytmfeokapjmpjfaa.VB Go.Proofs.Ytmfeokapjmpjfaa.PArc Go.Proofs.YtmfeokapjmpjfaaW.PrintWords Go.Proofs.YtmfeokapjmpjfaaW.PrintLast Go.Proofs.YtmfeokapjmpjfaaW.PrintMore
set_option linter.unusedVariables false
set_option linter.unusedSimpArgs false

theorem rdec_l0 (x0 : Int) (us : List Int) (u : List Int) (hue : u = x0 :: us) (hu : ∀ x ∈ u, 0 ≤ x ∧ x < 18446744073709551616) (hul : u.length ≤ 1000000) : ∀ (d i : Nat) (j : Nat) (out : List (List S48)) (p : S48), u.length - i = d → i ≤ u.length → out.length + tot out + 1 ≤ i → (j : Int) ≤ x0 → near p → p.f2 = 0 →
    Ev (fun k => lapidaryref15_Decode.l0 k u out (i : Int) (j : Int) p.f0 p.f1 p.f2) (finS (preS out (numsA (x0.toNat - j) p (u.drop i)))) := by
  have hx0 : 0 ≤ x0 ∧ x0 < 18446744073709551616 := hu x0 (by rw [hue]; exact List.mem_cons_self ..)
  have hrd : rd u 0 = x0 := by rw [hue]; rfl
  have hlen : 0 < u.length := by rw [hue]; simp
  have hbad : ∀ (out : List (List S48)) (i j : Int) (p : S48), Ev (fun k => lapidaryref15_Decode.j2 k u out i j true p.f0 p.f1 p.f2) (([], 11) : List (List S48) × Int) := by
    intro out i j p
    refine Ev.step (f := fun _ => some ([], 11)) (fun k => ?_) (Ev.now _)
    simp only [lapidaryref15_Decode.j2, if_true]
  intro d
  induction d using Nat.strongRecOn with
  | _ d ih =>
    intro i j out p hd hi ho hj hp hp2
    by_cases hjn : (j : Int) < x0
    · obtain ⟨m, hm⟩ : ∃ m, x0.toNat - j = m + 1 := ⟨x0.toNat - j - 1, by omega⟩
      rw [hm]
      by_cases hlt : i ≥ u.length
      · rw [List.drop_eq_nil_iff.2 hlt]
        refine Ev.step (fun k => ?_) (hbad out i j p)
        simp only [lapidaryref15_Decode.l0]
        rw [if_pos (by omega), hrd, if_pos hjn, if_pos (by omega)]
      · obtain ⟨kk, v, hx⟩ : ∃ x v, u.drop i = x :: v := by
          have := List.length_drop (i := i) (l := u)
          match hd : u.drop i, this with
          | [], h => rw [List.length_nil] at h; omega
          | x :: v, _ => exact ⟨x, v, rfl⟩
        obtain ⟨_, hd1, _⟩ := dropc (d := 0) hx
        have hku : 0 ≤ kk ∧ kk < 18446744073709551616 := hu kk (List.mem_of_mem_drop (by rw [hx]; exact List.mem_cons_self ..))
        have hvl : v.length = u.length - (i + 1) := by rw [← hd1, List.length_drop]
        rw [hx, numsA]
        have e0 : IntKind.u64.wrap (wrap64 ((u.length : Int) - i)) = (u.length : Int) - i := by rw [Mem.w64 (by omega) (by omega), VB.u64 (by omega) (by omega)]
        by_cases hk : kk > (u.length : Int) - i
        · rw [numsP_len _ _ _ (by omega)]
          refine Ev.step (fun k => ?_) (hbad out i j p)
          simp only [lapidaryref15_Decode.l0]
          rw [if_pos (by omega), hrd, if_pos hjn, if_neg (by omega), if_pos (by omega), if_pos (by omega), rdI hx, e0, decide_eq_true hk]
        · have hl1 := rdec_l1 u hu hul out (j : Int) (by omega) (by omega) (fun q a w => finS (preS (out ++ [a]) (numsA m q w))) (out.length + tot out + 2) (i + 1) (fun i' p' a hi' hp' hp2' ha hi0 => by
            have := ih (u.length - i') (by omega) i' (j + 1) (out ++ [a]) p' rfl hi' (by rw [List.length_append, List.length_singleton, tot_append, tot_cons]; simp only [tot, List.map_nil, List.sum_nil]; simp only [tot] at ha; omega) (by omega) hp' hp2'
            rw [show x0.toNat - (j + 1) = m by omega] at this
            exact this) kk.toNat (i + 1) p [] kk.toNat (by simp) (by omega) (by omega) (by simp; omega) (by omega) hp hp2
          rw [hd1] at hl1
          have hl2 : Ev (fun k => lapidaryref15_Decode.l1 k u out ((i + 1 : Nat) : Int) (j : Int) ((kk.toNat : Nat) : Int) ([] : List S48) ((([] : List S48).length : Nat) : Int) p.f0 p.f1 p.f2) (finS (preS out ((numsP kk.toNat p v).bind fun t => (numsA m t.2.1 t.2.2).map fun s => (t.1 :: s.1, s.2)))) := by
            cases hq : numsP kk.toNat p v with
            | none => rw [hq] at hl1; exact hl1
            | some t =>
              obtain ⟨t1, t2, t3⟩ := t
              rw [hq] at hl1
              simp only [Option.bind_some]
              dsimp only at hl1
              rw [List.nil_append] at hl1
              cases hq2 : numsA m t2 t3 with
              | none => rw [hq2] at hl1; exact hl1
              | some s =>
                rw [hq2] at hl1
                simp only [preS, Option.map_some, List.append_assoc, List.singleton_append] at hl1 ⊢
                exact hl1
          have hl1 := hl2
          have hj2 : Ev (fun k => lapidaryref15_Decode.j2 k u out (i : Int) (j : Int) false p.f0 p.f1 p.f2) (finS (preS out ((numsP kk.toNat p v).bind fun t => (numsA m t.2.1 t.2.2).map fun s => (t.1 :: s.1, s.2)))) := by
            refine Ev.step (fun k => ?_) hl1
            simp only [lapidaryref15_Decode.j2]
            rw [if_neg (by decide), if_pos (by omega), if_pos (by omega), rdI hx, Mem.w64 (x := kk) (by omega) (by omega), Mem.w64 (x := (i : Int) + 1) (by omega) (by omega), show ((kk.toNat : Nat) : Int) = kk by omega]
            rfl
          refine Ev.step (fun k => ?_) hj2
          simp only [lapidaryref15_Decode.l0]
          rw [if_pos (by omega), hrd, if_pos hjn, if_neg (by omega), if_pos (by omega), if_pos (by omega), rdI hx, e0, decide_eq_false hk]
    · rw [show x0.toNat - j = 0 by omega, numsA]
      by_cases hlt : i = u.length
      · rw [List.drop_eq_nil_iff.2 (by omega)]
        refine Ev.step (f := fun k => (lapidaryref15_Check.f k out).bind fun t267 => (if t267 = 0 then (some (out, 0)) else (some (([] : List (List (S48))), 11)))) (fun k => ?_) (Ev.bind (rchk_ev out (by omega) (by omega)) ?_)
        · simp only [lapidaryref15_Decode.l0]
          rw [if_pos (by omega), hrd, if_neg hjn, if_pos (by omega)]
        · simp only [preS, Option.map_some, List.append_nil, finS]
          by_cases hc : chkS out = 0
          · rw [if_pos hc, if_pos hc]; exact Ev.now _
          · rw [if_neg hc, if_neg hc]; exact Ev.now _
      · have : finS (preS out (some ([], u.drop i))) = ([], 11) := by
          have := List.length_drop (i := i) (l := u)
          match hd : u.drop i, this with
          | [], h => rw [List.length_nil] at h; omega
          | x :: v, _ => rfl
        rw [this]
        refine Ev.step (f := fun _ => some ([], 11)) (fun k => ?_) (Ev.now _)
        simp only [lapidaryref15_Decode.l0]
        rw [if_pos (by omega), hrd, if_neg hjn, if_neg (by omega)]

theorem rdec_ev (b : List Int) (hb : ∀ c ∈ b, 0 ≤ c ∧ c < 256) (hl : b.length ≤ 100000) : Ev (fun k => lapidaryref15_Decode.f k b) (decR b) := by
  obtain ⟨⟨u, e⟩, h1, h2⟩ := all_l0 b hb (by omega) b.length [] 0 (by omega) (by omega) (by simp; omega)
  rw [List.drop_zero] at h2
  have hnone : ∀ u : List Int, (∀ l, chkS l = 0 → u ≠ nums l) → (∀ x ∈ u, 0 ≤ x ∧ x < 18446744073709551616) → b = VB.encs u → decR b = ([], 11) := by
    intro u hu hu2 hbu
    rcases decR_cases hb with ⟨l, hc, he, _⟩ | ⟨_, h⟩
    · rw [hbu] at he
      obtain ⟨s, h3, h4⟩ := encs_prefix (t := []) hu2 (nums_u64 hc) (by rw [List.append_nil]; exact he)
      have hs : s = [] := by
        cases s with
        | nil => rfl
        | cons x s => rw [VB.encs_cons] at h4; have := enc_ne x.toNat; have h5 := congrArg List.length h4; rw [List.length_append, List.length_nil] at h5; have := enc_pos x.toNat; omega
      rw [hs, List.append_nil] at h3
      exact absurd h3.symm (hu l hc)
    · exact h
  have hj0 : ∀ k (x : List Int × Int), (if x.2 = 0 then (lapidaryref15_Decode.j0 k x.1 ((x.1.length : Int) == 0)) else (lapidaryref15_Decode.j0 k x.1 true)) = lapidaryref15_Decode.j0 k x.1 (if x.2 = 0 then ((x.1.length : Int) == 0) else true) := by
    intro k x; split <;> rfl
  refine Ev.congr (fun k => ?_) (Ev.bind (f := fun k x => if x.2 = 0 then (lapidaryref15_Decode.j0 k x.1 ((x.1.length : Int) == 0)) else (lapidaryref15_Decode.j0 k x.1 true)) h1 (Ev.congr (fun k => hj0 k _) ?_))
  · rfl
  · rcases h2 with ⟨h2, h3⟩ | ⟨h2, v, h3, h4, h5⟩
    · have hd : decR b = ([], 11) := by
        rcases decR_cases hb with ⟨l, hc, he, _⟩ | ⟨_, h⟩
        · exact absurd he (h3 _ (nums_u64 hc))
        · exact h
      rw [hd, if_neg h2]
      refine Ev.step (f := fun _ => some ([], 11)) (fun k => ?_) (Ev.now _)
      simp only [lapidaryref15_Decode.j0, if_true]
    · rw [List.nil_append] at h3
      dsimp only at h2 h3 ⊢
      subst h3
      rw [if_pos h2]
      cases u with
      | nil =>
        have hd : decR b = ([], 11) := hnone [] (fun l _ h => by simp [nums] at h) h4 h5
        rw [hd]
        refine Ev.step (f := fun _ => some ([], 11)) (fun k => ?_) (Ev.now _)
        simp [lapidaryref15_Decode.j0]
      | cons x0 us =>
        have hx0 := h4 x0 (List.mem_cons_self ..)
        have hul : (x0 :: us).length ≤ 1000000 := by have := encs_nonneg_len (x0 :: us); rw [← h5] at this; omega
        have h6 := rdec_l0 x0 us (x0 :: us) rfl h4 hul ((x0 :: us).length - 1) 1 0 [] z48 rfl (by simp) (by simp [tot]) hx0.1 near_z rfl
        have hfin : finS (preS [] (numsA (x0.toNat - 0) z48 ((x0 :: us).drop 1))) = decR b := by
          rw [Nat.sub_zero, List.drop_succ_cons, List.drop_zero]
          by_cases hex : ∃ l, chkS l = 0 ∧ (x0 :: us) = nums l
          · obtain ⟨l, hc, he⟩ := hex
            have hdl : decR b = (l, 0) := by
              rcases decR_cases hb with ⟨l', hc', he', hd⟩ | ⟨hno, _⟩
              · have : l' = l := by
                  rw [h5, he] at he'
                  exact ((bytes_inj (t := []) hc hc' (by rw [List.append_nil]; exact he')).1).symm
                rw [hd, this]
              · exact absurd (by rw [h5, he]) (hno l hc)
            simp only [nums, List.cons.injEq] at he
            obtain ⟨he1, he2⟩ := he
            have := numsA_enc l z48 [] near_z (chk0_rgt hc)
            rw [List.append_nil, ← he2] at this
            rw [he1, Int.toNat_natCast, this, hdl]
            simp only [preS, Option.map_some, List.nil_append, finS]
            rw [if_pos hc]
          · rw [hnone _ (fun l hc he => hex ⟨l, hc, he⟩) h4 h5]
            cases hn : numsA x0.toNat z48 us with
            | none => rfl
            | some s =>
              obtain ⟨l, w⟩ := s
              obtain ⟨g1, g2, g3⟩ := numsA_ok _ _ _ _ _ (fun x hx => h4 x (List.mem_cons_of_mem _ hx)) hn
              cases w with
              | cons _ _ => rfl
              | nil =>
                simp only [preS, Option.map_some, List.nil_append, finS]
                by_cases hc : chkS l = 0
                · rw [List.append_nil] at g1
                  exact absurd ⟨l, hc, by rw [nums, g1, g2]; congr 1; omega⟩ hex
                · rw [if_neg hc]
        rw [hfin] at h6
        refine Ev.step (fun k => ?_) h6
        simp only [lapidaryref15_Decode.j0]
        rw [if_neg (by simp; omega)]
        rfl
end Go.Proofs.Ytmfeokapjmpjfaa.ArcW
