/- The document's Decode, a point and an arc. -/
import Derived.Test.YtmfeokapjmpjfaaArcRef
namespace Go.Proofs.Ytmfeokapjmpjfaa.ArcW
open Go Go.RowKit Go.Proofs.Ytmfeokapjmpjfaa.Mem Go.Proofs.Ytmfeokapjmpjfaa.VM Go.Proofs.Ytmfeokapjmpjfaa.VB Go.Proofs.Ytmfeokapjmpjfaa.PArc Go.Proofs.YtmfeokapjmpjfaaW.PrintWords Go.Proofs.YtmfeokapjmpjfaaW.PrintLast Go.Proofs.YtmfeokapjmpjfaaW.PrintMore
set_option linter.unusedVariables false
set_option linter.unusedSimpArgs false

theorem rdec_l1 (u : List Int) (hu : ∀ x ∈ u, 0 ≤ x ∧ x < 18446744073709551616) (hul : u.length ≤ 1000000) (out : List (List S48)) (j : Int) (hj : 0 ≤ j ∧ j < 18446744073709551615) (hol : out.length ≤ 1000000)
    (G : S48 → List S48 → List Int → List (List S48) × Int)
    (B i0 : Nat) (hn : ∀ (i : Nat) (p : S48) (a : List S48), i ≤ u.length → near p → p.f2 = 0 → a.length + B ≤ i → i0 ≤ i → Ev (fun k => lapidaryref15_Decode.l0 k u (out ++ [a]) (i : Int) (j + 1) p.f0 p.f1 p.f2) (G p a (u.drop i))) : ∀ (m : Nat) (i : Nat) (p : S48) (a : List S48) (n : Nat), a.length + m = n → i ≤ u.length → n ≤ 1000000 → a.length + B ≤ i → i0 ≤ i → near p → p.f2 = 0 →
    Ev (fun k => lapidaryref15_Decode.l1 k u out (i : Int) j (n : Int) a (a.length : Int) p.f0 p.f1 p.f2) (match numsP m p (u.drop i) with | some (pts, q, v) => G q (a ++ pts) v | none => ([], 11)) := by
  intro m
  induction m with
  | zero =>
    intro i p a n hm hi hn1 hai hi0 hp hp2
    rw [numsP]
    dsimp only
    rw [List.append_nil]
    refine Ev.step (fun k => ?_) (hn i p a hi hp hp2 hai hi0)
    simp only [lapidaryref15_Decode.l1]
    rw [if_neg (by omega), if_pos (by omega), VB.u64 (by omega) (by omega)]
  | succ m ih =>
    intro i p a n hm hi hn1 hai hi0 hp hp2
    have E1 := Lib.hid (show wrap64 ((i : Int) + 1) = ((i + 1 : Nat) : Int) from (Mem.w64 (by clear hn ih; omega) (by clear hn ih; omega)).trans (by clear hn ih; omega))
    have E2 := Lib.hid (show wrap64 ((i : Int) + 2) = ((i + 2 : Nat) : Int) from (Mem.w64 (by clear hn ih; omega) (by clear hn ih; omega)).trans (by clear hn ih; omega))
    by_cases h2 : i + 1 ≥ u.length
    · rw [numsP_len _ _ _ (by rw [List.length_drop]; omega)]
      refine Ev.step (f := fun _ => some ([], 11)) (fun k => ?_) (Ev.now _)
      simp only [lapidaryref15_Decode.l1]
      rw [if_pos (by omega), E1.out, if_pos (by omega)]
    · obtain ⟨x, y, v, hx⟩ : ∃ x y v, u.drop i = x :: y :: v := by
        have := List.length_drop (i := i) (l := u)
        match hd : u.drop i, this with
        | [], h => rw [List.length_nil] at h; omega
        | [x], h => rw [List.length_singleton] at h; omega
        | x :: y :: v, _ => exact ⟨x, y, v, rfl⟩
      obtain ⟨hlt, hd, _⟩ := dropc (d := 0) hx
      obtain ⟨hlt2, hd2, _⟩ := dropc (d := 0) hd
      have hxu : 0 ≤ x ∧ x < 18446744073709551616 := hu x (List.mem_of_mem_drop (by rw [hx]; exact List.mem_cons_self ..))
      have hyu : 0 ≤ y ∧ y < 18446744073709551616 := hu y (List.mem_of_mem_drop (by rw [hd]; exact List.mem_cons_self ..))
      rw [hx, numsP]
      have hfar : Ev (fun k => lapidaryref15_Decode.j4 k u out (i : Int) j (n : Int) a (a.length : Int) (zag x) (zag y) true p.f0 p.f1 p.f2) (([], 11) : List (List S48) × Int) := by
        refine Ev.step (f := fun _ => some ([], 11)) (fun k => ?_) (Ev.now _)
        simp only [lapidaryref15_Decode.j4, if_true]
      have hstep : ∀ g : Nat → Option (List (List S48) × Int), (∀ k, (if zag x > 8589934592 then (lapidaryref15_Decode.j4 k u out (i : Int) j (n : Int) a (a.length : Int) (zag x) (zag y) true p.f0 p.f1 p.f2) else (if zag x < (-8589934592) then (lapidaryref15_Decode.j4 k u out (i : Int) j (n : Int) a (a.length : Int) (zag x) (zag y) true p.f0 p.f1 p.f2) else (if zag y > 8589934592 then (lapidaryref15_Decode.j4 k u out (i : Int) j (n : Int) a (a.length : Int) (zag x) (zag y) true p.f0 p.f1 p.f2) else (lapidaryref15_Decode.j4 k u out (i : Int) j (n : Int) a (a.length : Int) (zag x) (zag y) (decide (zag y < (-8589934592))) p.f0 p.f1 p.f2)))) = g k) → ∀ k, lapidaryref15_Decode.l1 (k + 1) u out (i : Int) j (n : Int) a (a.length : Int) p.f0 p.f1 p.f2 = g k := by
        intro g hg k
        rw [← hg k]
        simp only [lapidaryref15_Decode.l1]
        rw [if_pos (by omega), E1.out, if_neg (by omega), if_pos (by omega), if_pos (by omega), rdI hx, rzag_f hxu, Option.bind_some, if_pos (by omega), if_pos (by omega), rdI hd, rzag_f hyu, Option.bind_some]
      by_cases hf : farV (zag x) = true ∨ farV (zag y) = true
      · rw [if_pos hf]
        have hf' : (zag x > 8589934592 ∨ zag x < -8589934592) ∨ (zag y > 8589934592 ∨ zag y < -8589934592) := by
          unfold farV at hf
          simp only [Bool.or_eq_true, decide_eq_true_eq] at hf
          omega
        refine Ev.step (hstep _ fun k => ?_) hfar
        by_cases g1 : zag x > 8589934592
        · rw [if_pos g1]
        · rw [if_neg g1]
          by_cases g2 : zag x < -8589934592
          · rw [if_pos g2]
          · rw [if_neg g2]
            by_cases g3 : zag y > 8589934592
            · rw [if_pos g3]
            · rw [if_neg g3, decide_eq_true (by omega)]
      · rw [if_neg hf]
        have hf1 : farV (zag x) = false := by cases h : farV (zag x) with | false => rfl | true => exact absurd (.inl h) hf
        have hf2 : farV (zag y) = false := by cases h : farV (zag y) with | false => rfl | true => exact absurd (.inr h) hf
        rw [farV_false] at hf1 hf2
        have hpn := hp
        unfold near at hpn
        have W0 := Lib.hid (show wrap64 (p.f0 + zag x) = p.f0 + zag x from Mem.w64 (by omega) (by omega))
        have W1 := Lib.hid (show wrap64 (p.f1 + zag y) = p.f1 + zag y from Mem.w64 (by omega) (by omega))
        have hright := rright_ev [(⟨p.f0 + zag x, p.f1 + zag y, 0⟩ : S48)] (by simp)
        have hj4 : Ev (fun k => lapidaryref15_Decode.j4 k u out (i : Int) j (n : Int) a (a.length : Int) (zag x) (zag y) false p.f0 p.f1 p.f2) (match (if rgt ⟨p.f0 + zag x, p.f1 + zag y, 0⟩ then (numsP m ⟨p.f0 + zag x, p.f1 + zag y, 0⟩ v).map fun t => ((⟨p.f0 + zag x, p.f1 + zag y, 0⟩ : S48) :: t.1, t.2) else none) with | some (pts, q, v) => G q (a ++ pts) v | none => ([], 11)) := by
          by_cases hr : rgt ⟨p.f0 + zag x, p.f1 + zag y, 0⟩
          · rw [if_pos hr]
            have h1 := ih (i + 2) ⟨p.f0 + zag x, p.f1 + zag y, 0⟩ (a ++ [⟨p.f0 + zag x, p.f1 + zag y, 0⟩]) n (by simp; omega) (by omega) hn1 (by simp; omega) (by omega) hr.near rfl
            rw [show u.drop (i + 2) = v from hd2] at h1
            have h2 : Ev (fun k => (lapidaryref09_Right.f k (([(⟨p.f0 + zag x, p.f1 + zag y, 0⟩ : S48)] : List (S48)))).bind fun t280 => (if t280 = true then (if a.length < 5864062014805 then (lapidaryref15_Decode.l1 k u out ((i + 2 : Nat) : Int) j (n : Int) (a ++ [(⟨p.f0 + zag x, p.f1 + zag y, 0⟩ : S48)]) (((a ++ [(⟨p.f0 + zag x, p.f1 + zag y, 0⟩ : S48)]).length : Nat) : Int) (p.f0 + zag x) (p.f1 + zag y) 0) else (none)) else (some (([] : List (List (S48))), 11)))) (match (numsP m ⟨p.f0 + zag x, p.f1 + zag y, 0⟩ v).map fun t => ((⟨p.f0 + zag x, p.f1 + zag y, 0⟩ : S48) :: t.1, t.2) with | some (pts, q, v) => G q (a ++ pts) v | none => ([], 11)) := by
              refine Ev.bind hright (Ev.congr (f := fun k => lapidaryref15_Decode.l1 k u out ((i + 2 : Nat) : Int) j (n : Int) (a ++ [(⟨p.f0 + zag x, p.f1 + zag y, 0⟩ : S48)]) (((a ++ [(⟨p.f0 + zag x, p.f1 + zag y, 0⟩ : S48)]).length : Nat) : Int) (p.f0 + zag x) (p.f1 + zag y) 0) (fun k => ?_) ?_)
              · rw [if_pos (by simp [hr]), if_pos (by omega)]
              · cases hq : numsP m ⟨p.f0 + zag x, p.f1 + zag y, 0⟩ v with
                | none => rw [hq] at h1; exact h1
                | some t =>
                  obtain ⟨t1, t2, t3⟩ := t
                  rw [hq] at h1
                  dsimp only [Option.map_some] at h1 ⊢
                  rw [List.append_assoc] at h1
                  exact h1
            refine Ev.step (fun k => ?_) h2
            simp only [lapidaryref15_Decode.j4]
            rw [if_neg (by decide), W0.out, W1.out, E2.out, Mem.w64 (x := (a.length : Int) + 1) (by omega) (by omega)]
            simp only [List.length_append, List.length_singleton]
            rfl
          · rw [if_neg hr]
            refine Ev.step (f := fun k => (lapidaryref09_Right.f k (([(⟨p.f0 + zag x, p.f1 + zag y, 0⟩ : S48)] : List (S48)))).bind fun t280 => (if t280 = true then (if a.length < 5864062014805 then (lapidaryref15_Decode.l1 k u out (wrap64 ((i : Int) + 2)) j (n : Int) (a ++ [(⟨p.f0 + zag x, p.f1 + zag y, 0⟩ : S48)]) (wrap64 ((a.length : Int) + 1)) (p.f0 + zag x) (p.f1 + zag y) 0) else (none)) else (some (([] : List (List (S48))), 11)))) (fun k => ?_) (Ev.bind hright (Ev.congr (fun k => ?_) (Ev.now _)))
            · simp only [lapidaryref15_Decode.j4]
              rw [if_neg (by decide), W0.out, W1.out]
            · rw [if_neg (by simp [hr])]
        refine Ev.step (hstep _ fun k => ?_) hj4
        rw [if_neg (by omega), if_neg (by omega), if_neg (by omega), decide_eq_false (by omega)]

end Go.Proofs.Ytmfeokapjmpjfaa.ArcW
