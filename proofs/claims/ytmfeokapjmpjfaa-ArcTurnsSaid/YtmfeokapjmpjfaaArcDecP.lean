/- What arc.Decode tells of bytes: the arcs whose bytes they are, or that they are none. -/
import Derived.Test.YtmfeokapjmpjfaaArcNums
namespace Go.Proofs.Ytmfeokapjmpjfaa.ArcW
open Go Go.RowKit Go.Proofs.Ytmfeokapjmpjfaa.Mem Go.Proofs.Ytmfeokapjmpjfaa.VM Go.Proofs.Ytmfeokapjmpjfaa.VB Go.Proofs.Ytmfeokapjmpjfaa.PArc Go.Proofs.YtmfeokapjmpjfaaW.PrintWords Go.Proofs.YtmfeokapjmpjfaaW.PrintLast Go.Proofs.YtmfeokapjmpjfaaW.PrintMore
set_option linter.unusedVariables false
set_option linter.unusedSimpArgs false

theorem zagV_zag {u : Int} (h0 : 0 ≤ u) (h1 : u < 18446744073709551616) : zagV u = zag u := by
  have := zag_f ⟨h0, h1⟩
  rw [zagV_eq] at this
  injection this
theorem farV_false {x : Int} : farV x = false ↔ -8589934592 ≤ x ∧ x ≤ 8589934592 := by
  unfold farV
  rw [Bool.or_eq_false_iff, decide_eq_false_iff_not, decide_eq_false_iff_not]
  omega
theorem rightV_rgt (p : S48) : rightV p = decide (rgt p) := by
  unfold rightV arc_right.f
  split
  · split
    · split
      · split
        · simp only [Option.getD_some]; unfold rgt; apply decide_eq_decide.2; omega
        · simp only [Option.getD_some]; unfold rgt; symm; apply decide_eq_false; omega
      · simp only [Option.getD_some]; unfold rgt; symm; apply decide_eq_false; omega
    · simp only [Option.getD_some]; unfold rgt; symm; apply decide_eq_false; omega
  · simp only [Option.getD_some]; unfold rgt; symm; apply decide_eq_false; omega

theorem num_true (G : Int → Int × Int × Int) (a : Int) : numS G a true = (0, a, true) := rfl
theorem pts_bad (G : Int → Int × Int × Int) (m : Nat) (a : Int) (p : S48) (acc : List S48) : ptsS G m a true p acc = (a, true, p, acc) := by
  cases m with
  | zero => rfl
  | succ m => rw [ptsS, if_pos rfl]
theorem arcs_bad (G : Int → Int × Int × Int) (L m : Nat) (a : Int) (p : S48) (out : List (List S48)) : (arcsS G L m a true p out).2.1 = true := by
  cases m with
  | zero => rfl
  | succ m => rw [arcsS, num_true, if_pos (by simp)]

section
variable {b : List Int} (hb : ∀ c ∈ b, 0 ≤ c ∧ c < 256)
include hb

theorem num_ok {i : Nat} {n t : Int} (h : numS (getS b) i false = (n, t, false)) : ∃ j : Nat, t = j ∧ i < j ∧ j ≤ b.length ∧ (0 ≤ n ∧ n < 18446744073709551616) ∧ b.drop i = enc n.toNat ++ b.drop j := by
  have hg : getS b i = (n, t, 0) := by
    unfold numS at h
    simp only [Bool.false_eq_true, if_false, Prod.mk.injEq, bne_eq_false_iff_eq] at h
    exact Prod.ext h.1 (Prod.ext h.2.1 h.2.2)
  obtain ⟨h0, h1, h2, h3, h4⟩ := getS_ok hb hg
  refine ⟨t.toNat, by omega, by omega, by omega, h3, ?_⟩
  rw [h4, Int.toNat_natCast, show (t - (i : Int)).toNat = t.toNat - i by omega, show b.drop t.toNat = (b.drop i).drop (t.toNat - i) by rw [List.drop_drop]; congr 1; omega, List.take_append_drop]
omit hb in
theorem num_enc {i n : Nat} {rest : List Int} (h : b.drop i = enc n ++ rest) (hn : n < 18446744073709551616) : numS (getS b) i false = ((n : Int), ((i + (enc n).length : Nat) : Int), false) := by
  have hi : i ≤ b.length := by
    rcases Nat.le_total i b.length with hi | hi
    · exact hi
    · have : b.drop i = [] := List.drop_eq_nil_iff.2 hi
      rw [this] at h
      have := enc_ne n
      simp_all
  have hg := getS_enc n hn (b.take i) rest
  rw [List.length_take, Nat.min_eq_left hi, List.append_assoc, ← h, List.take_append_drop] at hg
  unfold numS
  simp only [Bool.false_eq_true, if_false]
  rw [hg]
  simp

theorem point_ok {i : Nat} {p q : S48} {t : Int} (hp : near p) (h : pointS (getS b) i false p = (q, t, false)) : ∃ j : Nat, t = j ∧ i < j ∧ j ≤ b.length ∧ rgt q ∧ b.drop i = encs (deltas p [q]) ++ b.drop j := by
  obtain ⟨⟨n1, a1, b1⟩, h1⟩ : ∃ z, z = numS (getS b) i false := ⟨_, rfl⟩
  obtain ⟨⟨n2, a2, b2⟩, h2⟩ : ∃ z, z = numS (getS b) a1 b1 := ⟨_, rfl⟩
  rw [pointS_eq h1 h2] at h
  split at h
  · simp at h
  · rename_i hc
    simp only [Bool.not_eq_true, Bool.or_eq_false_iff] at hc
    obtain ⟨⟨rfl, hx⟩, hy⟩ := hc
    cases b1 with
    | true => rw [num_true] at h2; simp at h2
    | false =>
      obtain ⟨j, rfl, hj1, hj2, hn1, hd1⟩ := num_ok hb h1.symm
      obtain ⟨k, rfl, hk1, hk2, hn2, hd2⟩ := num_ok hb h2.symm
      rw [zagV_zag hn1.1 hn1.2] at h hx
      rw [zagV_zag hn2.1 hn2.2] at h hy
      rw [farV_false] at hx hy
      unfold near at hp
      rw [Mem.w64 (by omega) (by omega), Mem.w64 (by omega) (by omega), rightV_rgt] at h
      simp only [Prod.mk.injEq, Bool.not_eq_false', decide_eq_true_eq] at h
      obtain ⟨rfl, rfl, hr⟩ := h
      refine ⟨k, rfl, by omega, hk2, hr, ?_⟩
      rw [hd1, hd2]
      simp only [deltas, encs_cons, encs_nil, List.append_nil, List.append_assoc]
      rw [show p.f0 + zag n1 - p.f0 = zag n1 by omega, show p.f1 + zag n2 - p.f1 = zag n2 by omega, zig_zag _ hn1.1, zig_zag _ hn2.1]
omit hb in
theorem point_enc {i : Nat} {p q : S48} {rest : List Int} (hp : near p) (hq : rgt q) (h : b.drop i = encs (deltas p [q]) ++ rest) : pointS (getS b) i false p = (q, ((i + (encs (deltas p [q])).length : Nat) : Int), false) := by
  have hz := zig_near hq.near hp
  simp only [deltas, encs_cons, encs_nil, List.append_nil, List.append_assoc] at h
  have h1 := num_enc h (by omega)
  have h2 := num_enc (b := b) (i := i + (enc (zig (q.f0 - p.f0)).toNat).length) (n := (zig (q.f1 - p.f1)).toNat) (rest := rest) (by rw [← List.drop_drop, h, List.drop_left']; rfl) (by omega)
  rw [pointS_eq h1.symm h2.symm]
  have e0 : (((zig (q.f0 - p.f0)).toNat : Nat) : Int) = zig (q.f0 - p.f0) := by omega
  have e1 : (((zig (q.f1 - p.f1)).toNat : Nat) : Int) = zig (q.f1 - p.f1) := by omega
  rw [e0, e1, zagV_zag hz.1.1 hz.1.2, zagV_zag hz.2.1 hz.2.2, zag_zig, zag_zig]
  have hn := hq.near
  unfold near at hp hn
  rw [farV_false.2 (by omega), farV_false.2 (by omega), Mem.w64 (by omega) (by omega), Mem.w64 (by omega) (by omega), rightV_rgt]
  have e : (⟨p.f0 + (q.f0 - p.f0), p.f1 + (q.f1 - p.f1), 0⟩ : S48) = q := S48_ext (by show p.f0 + (q.f0 - p.f0) = q.f0; omega) (by show p.f1 + (q.f1 - p.f1) = q.f1; omega) hq.1.symm
  rw [e, decide_eq_true hq]
  simp only [Bool.or_self, Bool.false_eq_true, if_false, Bool.not_true, deltas, encs_cons, encs_nil, List.append_nil, List.length_append, Prod.mk.injEq, true_and, and_true]
  omega

theorem pts_ok : ∀ (m i : Nat) (p : S48) (acc : List S48) (t : Int) (p' : S48) (a' : List S48), near p → i ≤ b.length → ptsS (getS b) m i false p acc = (t, false, p', a') →
    ∃ (j : Nat) (pts : List S48), t = j ∧ j ≤ b.length ∧ a' = acc ++ pts ∧ pts.length = m ∧ p' = lastP p pts ∧ (∀ q ∈ pts, rgt q) ∧ b.drop i = encs (deltas p pts) ++ b.drop j := by
  intro m
  induction m with
  | zero =>
    intro i p acc t p' a' hp hi h
    simp only [ptsS, Prod.mk.injEq, true_and] at h
    obtain ⟨rfl, rfl, rfl⟩ := h
    exact ⟨i, [], rfl, hi, by simp, rfl, rfl, (fun _ hq => nomatch hq), rfl⟩
  | succ m ih =>
    intro i p acc t p' a' hp hi h
    rw [ptsS, if_neg (by decide)] at h
    obtain ⟨⟨q, s, bad⟩, hz⟩ : ∃ z, z = pointS (getS b) i false p := ⟨_, rfl⟩
    rw [← hz] at h
    cases bad with
    | true => rw [pts_bad] at h; simp at h
    | false =>
      obtain ⟨j, rfl, hj1, hj2, hq, hd⟩ := point_ok hb hp hz.symm
      obtain ⟨k, pts, rfl, hk, rfl, rfl, rfl, hr, hd2⟩ := ih j q (acc ++ [q]) t p' a' hq.near hj2 h
      refine ⟨k, q :: pts, rfl, hk, by simp, rfl, rfl, ?_, ?_⟩
      · intro x hx
        rcases List.mem_cons.1 hx with rfl | hx
        · exact hq
        · exact hr x hx
      · rw [hd, hd2, ← List.append_assoc, ← VB.encs_append]; rfl
omit hb in
theorem pts_enc : ∀ (pts : List S48) (i : Nat) (p : S48) (acc : List S48) (rest : List Int), near p → (∀ q ∈ pts, rgt q) → b.drop i = encs (deltas p pts) ++ rest →
    ptsS (getS b) pts.length i false p acc = (((i + (encs (deltas p pts)).length : Nat) : Int), false, lastP p pts, acc ++ pts) := by
  intro pts
  induction pts with
  | nil => intro i p acc rest hp hr h; simp [ptsS, deltas, encs_nil, lastP]
  | cons q pts ih =>
    intro i p acc rest hp hr h
    have hq := hr q (List.mem_cons_self ..)
    have he : deltas p (q :: pts) = deltas p [q] ++ deltas q pts := rfl
    rw [he, VB.encs_append, List.append_assoc] at h
    rw [List.length_cons, ptsS, if_neg (by decide), point_enc hp hq h]
    dsimp only
    rw [ih (i + (encs (deltas p [q])).length) q (acc ++ [q]) rest hq.near (fun x hx => hr x (List.mem_cons_of_mem _ hx)) (by rw [← List.drop_drop, h, List.drop_left']; rfl)]
    simp only [lastP, List.append_assoc, List.singleton_append, Prod.mk.injEq, true_and, and_true]
    rw [he, VB.encs_append, List.length_append]
    omega

theorem arcs_ok (L : Nat) : ∀ (m i : Nat) (p : S48) (out : List (List S48)) (t : Int) (o' : List (List S48)), near p → i ≤ b.length → arcsS (getS b) L m i false p out = (t, false, o') →
    ∃ (j : Nat) (l : List (List S48)), t = j ∧ j ≤ b.length ∧ o' = out ++ l ∧ l.length = m ∧ (∀ a ∈ l, ∀ q ∈ a, rgt q) ∧ b.drop i = encs (arcNums p l) ++ b.drop j := by
  intro m
  induction m with
  | zero =>
    intro i p out t o' hp hi h
    simp only [arcsS, Prod.mk.injEq, true_and] at h
    obtain ⟨rfl, rfl⟩ := h
    exact ⟨i, [], rfl, hi, by simp, rfl, (fun _ hq => nomatch hq), rfl⟩
  | succ m ih =>
    intro i p out t o' hp hi h
    rw [arcsS] at h
    obtain ⟨⟨n, s, bad⟩, hz⟩ : ∃ z, z = numS (getS b) i false := ⟨_, rfl⟩
    rw [← hz] at h
    dsimp only at h
    split at h
    · simp at h
    · rename_i hc
      simp only [Bool.not_eq_true, Bool.or_eq_false_iff, decide_eq_false_iff_not] at hc
      obtain ⟨⟨rfl, hnL⟩, hoL⟩ := hc
      obtain ⟨j, rfl, hj1, hj2, hn, hd⟩ := num_ok hb hz.symm
      obtain ⟨⟨t2, bad2, p2, a2⟩, hy⟩ : ∃ z, z = ptsS (getS b) n.toNat j false p [] := ⟨_, rfl⟩
      rw [← hy] at h
      dsimp only at h
      cases bad2 with
      | true => have := arcs_bad (getS b) L m t2 p2 (out ++ [a2]); rw [h] at this; cases this
      | false =>
        obtain ⟨k, pts, rfl, hk, rfl, hlen, rfl, hr, hd2⟩ := pts_ok hb _ _ _ _ _ _ _ hp hj2 hy.symm
        obtain ⟨g, l, rfl, hg, rfl, rfl, hrl, hd3⟩ := ih k _ _ _ _ (lastP_near hp hr) hk h
        refine ⟨g, a2 :: l, rfl, hg, by simp, rfl, ?_, ?_⟩
        · intro a ha
          rcases List.mem_cons.1 ha with rfl | ha
          · exact hr
          · exact hrl a ha
        · rw [hd, hd2, hd3, arcNums, encs_cons, VB.encs_append, hlen, Int.toNat_natCast]
          simp only [List.append_assoc]
omit hb in
theorem arcs_enc (L : Nat) (hL : b.length ≤ L) (hL2 : L ≤ 1000000) : ∀ (l : List (List S48)) (i : Nat) (p : S48) (out : List (List S48)) (rest : List Int), near p → (∀ a ∈ l, ∀ q ∈ a, rgt q) → b.drop i = encs (arcNums p l) ++ rest → out.length + l.length ≤ L + 1 →
    arcsS (getS b) L l.length i false p out = (((i + (encs (arcNums p l)).length : Nat) : Int), false, out ++ l) := by
  intro l
  induction l with
  | nil => intro i p out rest hp hr h ho; simp [arcsS, arcNums, encs_nil]
  | cons a l ih =>
    intro i p out rest hp hr h ho
    have ha := hr a (List.mem_cons_self ..)
    rw [arcNums, encs_cons, VB.encs_append, Int.toNat_natCast, List.append_assoc, List.append_assoc] at h
    have hal : a.length ≤ L := by
      have := congrArg List.length h
      simp only [List.length_append, List.length_drop] at this
      have h1 := encs_nonneg_len (deltas p a)
      rw [deltas_len] at h1
      omega
    rw [List.length_cons] at ho ⊢
    rw [arcsS, num_enc h (by omega)]
    dsimp only
    have h2 : b.drop (i + (enc a.length).length) = encs (deltas p a) ++ (encs (arcNums (lastP p a) l) ++ rest) := by rw [← List.drop_drop, h, List.drop_left']; rfl
    rw [if_neg (by simp; omega), Int.toNat_natCast, pts_enc a _ p [] _ hp ha h2]
    dsimp only
    rw [ih _ (lastP p a) (out ++ [[] ++ a]) rest (lastP_near hp ha) (fun x hx => hr x (List.mem_cons_of_mem _ hx)) (by rw [← List.drop_drop, h2, List.drop_left']; rfl) (by simp; omega)]
    simp only [List.nil_append, List.append_assoc, List.singleton_append, arcNums, encs_cons, VB.encs_append, Int.toNat_natCast, List.length_append, Prod.mk.injEq, and_true, true_and]
    omega

theorem dec_ok {out : List (List S48)} (h : decS (getS b) b.length = ((b.length : Int), false, out)) : b = encs (nums out) ∧ ∀ a ∈ out, ∀ q ∈ a, rgt q := by
  unfold decS at h
  obtain ⟨⟨n, s, bad⟩, hz⟩ : ∃ z, z = numS (getS b) 0 false := ⟨_, rfl⟩
  rw [← hz] at h
  dsimp only at h
  cases bad with
  | true => have := arcs_bad (getS b) b.length n.toNat s z48 []; rw [h] at this; cases this
  | false =>
    obtain ⟨j, rfl, hj1, hj2, hn, hd⟩ := num_ok (i := 0) hb hz.symm
    obtain ⟨g, l, hg0, hg, rfl, hlen, hrl, hd3⟩ := arcs_ok hb _ _ _ _ _ _ _ near_z hj2 h
    refine ⟨?_, hrl⟩
    rw [List.drop_zero] at hd
    have hgl : g = b.length := by omega
    rw [hgl, List.drop_length, List.append_nil] at hd3
    rw [nums, encs_cons, ← hd3, Int.toNat_natCast, hlen]
    exact hd
omit hb in
theorem dec_enc {l : List (List S48)} (hc : chkS l = 0) (h : b = encs (nums l)) : decS (getS b) b.length = ((b.length : Int), false, l) := by
  have hl := encs_len10 (nums_u64 hc)
  have hn := nums_len hc
  have h0 : b.drop 0 = enc l.length ++ encs (arcNums z48 l) := by rw [List.drop_zero, h, nums, encs_cons, Int.toNat_natCast]
  have hk := chk0 hc
  unfold decS
  have h1 : numS (getS b) 0 false = _ := num_enc (i := 0) h0 (by omega)
  rw [h1]
  dsimp only
  have h2 : b.drop (0 + (enc l.length).length) = encs (arcNums z48 l) ++ [] := by rw [← List.drop_drop, h0, List.drop_left', List.append_nil]; rfl
  have h3 := encs_nonneg_len (nums l)
  rw [← h] at h3 hl
  rw [Int.toNat_natCast, arcs_enc b.length (Nat.le_refl _) (by omega) l _ z48 [] [] near_z (chk0_rgt hc) h2 (by simp only [nums, List.length_cons, arcNums_len, List.length_nil] at h3 ⊢; omega)]
  rw [List.nil_append]
  have : b.length = 0 + (enc l.length).length + (encs (arcNums z48 l)).length := by
    have := congrArg List.length h0
    rw [List.drop_zero, List.length_append] at this
    omega
  rw [← this]

/-- What arc.Decode tells. -/
def decR (b : List Int) : List (List S48) × Int :=
  if ((decS (getS b) b.length).2.1 || decide ((decS (getS b) b.length).1 ≠ b.length) || decide (chkS (decS (getS b) b.length).2.2 ≠ 0)) = true then ([], 11) else ((decS (getS b) b.length).2.2, 0)

theorem decR_cases : (∃ l, chkS l = 0 ∧ b = encs (nums l) ∧ decR b = (l, 0)) ∨ ((∀ l, chkS l = 0 → b ≠ encs (nums l)) ∧ decR b = ([], 11)) := by
  by_cases h : ((decS (getS b) b.length).2.1 || decide ((decS (getS b) b.length).1 ≠ b.length) || decide (chkS (decS (getS b) b.length).2.2 ≠ 0)) = true
  · refine .inr ⟨fun l hc he => ?_, by unfold decR; rw [if_pos h]⟩
    rw [dec_enc hc he] at h
    simp [hc] at h
  · have hd : decR b = ((decS (getS b) b.length).2.2, 0) := by unfold decR; rw [if_neg h]
    simp only [Bool.not_eq_true, Bool.or_eq_false_iff, decide_eq_false_iff_not, Decidable.not_not] at h
    have he := dec_ok hb (out := (decS (getS b) b.length).2.2) (Prod.ext h.1.2 (Prod.ext h.1.1 rfl))
    exact .inl ⟨_, h.2, he.1, hd⟩
end
end Go.Proofs.Ytmfeokapjmpjfaa.ArcW
