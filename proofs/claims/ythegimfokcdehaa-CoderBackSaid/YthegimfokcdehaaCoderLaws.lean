/- The laws of the coder, plainly: what is coded is read as it was; the examples. -/
import Derived.Test.YthegimfokcdehaaPCodx3
import Derived.Test.YthegimfokcdehaaPCodx7c
namespace Go.Proofs.Ythegimfokcdehaa.CL
open Go Go.RowKit Go.Proofs.Ythegimfokcdehaa.CM Go.Proofs.Ythegimfokcdehaa.CW Go.Proofs.Ythegimfokcdehaa.PCod Go.Proofs.YthegimfokcdehaaW.PrintWords Go.Proofs.YthegimfokcdehaaW.PrintLast Go.Proofs.YthegimfokcdehaaW.PrintMore
set_option linter.unusedVariables false
set_option linter.unusedSimpArgs false
theorem unpair_pairs (l : List S41) : (pairs l).map unpair = l := by
  unfold pairs
  rw [List.map_map]
  have : (unpair ∘ fun x : S41 => (x.f0, x.f1)) = id := by funext x; cases x; rfl
  rw [this, List.map_id]
theorem pairs_fst (l : List S41) : (pairs l).map Prod.fst = l.map S41.f0 := by unfold pairs; rw [List.map_map]; rfl
theorem share_kOK {C : List (List Int)} {n : Nat} (hn : C.length = n) {k s : Int} {p : Int × Int} (h : share C k s = some p) : kOK n k = true := by
  unfold kOK
  by_cases hp : isPlain k
  · rw [isP_iff.2 hp]; rfl
  · have hp' : isP k = false := Bool.eq_false_iff.2 fun e => hp (isP_iff.1 e)
    rw [hp', Bool.false_or]
    by_cases hk : 0 ≤ k ∧ k < C.length
    · rw [decide_eq_true hk.1, decide_eq_true (by omega)]; rfl
    · rw [share_out hp hk] at h; cases h
theorem fresh_len (l : List Int) : (freshC l).length = l.length := by unfold freshC; rw [List.length_map]
theorem run_kOK {sizes : List Int} {l : List S41} {u : St} (h : run (st0 (freshC sizes)) (pairs l) = some u) : (l.map S41.f0).all (kOK sizes.length) = true := by
  rw [List.all_eq_true]
  intro k hk
  obtain ⟨x, hx, rfl⟩ := List.mem_map.1 hk
  obtain ⟨C, p, h1, h2⟩ := run_shares _ h (x.f0, x.f1) (by unfold pairs; exact List.mem_map.2 ⟨x, hx, rfl⟩)
  refine share_kOK ?_ h2
  have := congrArg List.length h1
  rw [List.length_map, List.length_map] at this
  rw [this]
  exact fresh_len sizes
theorem dec_enc {sizes : List Int} {l : List S41} {u : St} (hS : Sizes sizes) (h : run (st0 (freshC sizes)) (pairs l) = some u) : decS sizes (l.map S41.f0) (digs u.L u.V) = (l, 0) := by
  unfold decS
  rw [if_pos ⟨hS, run_kOK h⟩]
  have h1 : CM.decode (gP (digs u.L u.V)) (st0 (freshC sizes)) (l.map S41.f0) (digs u.L u.V) = some (pairs l) :=
    (decode_iff (digs_dig _ _) (gP_right _) (st0_inv (fresh_mods hS.2)) _ _).2 ⟨pairs_fst l, u, h, rfl⟩
  rw [h1]
  show ((pairs l).map unpair, (0 : Int)) = _
  rw [unpair_pairs]
theorem dec_some {sizes ms b : List Int} {xs : List S41} (hb : Dig b) (h : decS sizes ms b = (xs, 0)) : Sizes sizes ∧ ∃ u, run (st0 (freshC sizes)) (pairs xs) = some u ∧ digs u.L u.V = b ∧ xs.map S41.f0 = ms := by
  unfold decS at h
  split at h
  · rename_i hc
    cases hd : CM.decode (gP b) (st0 (freshC sizes)) ms b with
    | none => rw [hd] at h; simp at h
    | some ys =>
      rw [hd] at h
      injection h with h1 _
      obtain ⟨h2, u, h3, h4⟩ := (decode_iff hb (gP_right b) (st0_inv (fresh_mods hc.1.2)) ms ys).1 hd
      have hp : pairs xs = ys := by
        rw [← h1]
        unfold pairs
        rw [List.map_map]
        have : ((fun x : S41 => (x.f0, x.f1)) ∘ unpair) = id := by funext x; rfl
        rw [this, List.map_id]
      exact ⟨hc.1, u, by rw [hp]; exact h3, h4, by rw [← pairs_fst, hp]; exact h2⟩
  · simp at h
theorem dec_code (sizes ms b : List Int) : (decS sizes ms b).2 = 0 ∨ ((decS sizes ms b).1 = [] ∧ ((decS sizes ms b).2 = 2 ∨ (decS sizes ms b).2 = 11)) := by
  unfold decS
  split
  · split
    · exact .inr ⟨rfl, .inr rfl⟩
    · exact .inl rfl
  · exact .inr ⟨rfl, .inl rfl⟩
def Valid (L : List Nat) (k s : Int) : Prop := (isPlain k ∧ 0 ≤ s ∧ s < CM.bits k) ∨ (0 ≤ k ∧ k < L.length ∧ 0 ≤ s ∧ s < (L.getD k.toNat 0 : Nat))
theorem valid_share {C : List (List Int)} {k s : Int} (h : Valid (C.map List.length) k s) : ∃ p, share C k s = some p := by
  rcases h with ⟨hp, h0, h1⟩ | ⟨h0, h1, h2, h3⟩
  · exact ⟨_, by rw [share_plain hp, if_pos ⟨h0, h1⟩]⟩
  · obtain ⟨i, rfl⟩ := Int.eq_ofNat_of_zero_le h0
    rw [List.length_map] at h1
    have hi : i < C.length := by omega
    have hg : (C.map List.length).getD i 0 = (C.getD i []).length := by
      rw [List.getD_eq_getElem?_getD, List.getD_eq_getElem?_getD, List.getElem?_map, List.getElem?_eq_getElem hi]
      rfl
    rw [Int.toNat_natCast, hg] at h3
    exact ⟨_, by rw [share_at hi, if_pos ⟨h2, h3⟩]⟩
theorem run_total : ∀ (xs : List (Int × Int)) (t : St), (∀ x ∈ xs, Valid (t.C.map List.length) x.1 x.2) → ∃ u, run t xs = some u
  | [], t, _ => ⟨t, rfl⟩
  | x :: xs, t, h => by
    obtain ⟨p, hp⟩ := valid_share (h x (List.mem_cons_self ..))
    obtain ⟨v, hv⟩ := step_of_share (x := x) hp
    have hl : v.C.map List.length = t.C.map List.length := run_lens [x] (by rw [run, hv]; rfl)
    obtain ⟨u, hu⟩ := run_total xs v (fun y hy => by rw [hl]; exact h y (List.mem_cons_of_mem _ hy))
    exact ⟨u, by rw [run, hv]; exact hu⟩
theorem enc_run {sizes : List Int} {l : List S41} {u : St} (hS : Sizes sizes) (h : run (st0 (freshC sizes)) (pairs l) = some u) : encS sizes l = (digs u.L u.V, 0) := by unfold encS; rw [if_pos hS, h]
theorem run_inv {sizes : List Int} {xs : List (Int × Int)} {u : St} (hS : Sizes sizes) (h : run (st0 (freshC sizes)) xs = some u) : SInv u := (run_within _ (st0_inv (fresh_mods hS.2)) h).inv
theorem run_len {sizes : List Int} {xs : List (Int × Int)} {u : St} (hS : Sizes sizes) (h : run (st0 (freshC sizes)) xs = some u) : u.L ≤ 5 + 2 * xs.length := run_L _ (st0_inv (fresh_mods hS.2)) h
theorem str_inj {a b : List Int} (ha : Dig a) (hb : Dig b) (h : strOfNums a = strOfNums b) : a = b := by
  unfold strOfNums at h
  injection h with h
  have h2 : (a.map fun n => UInt8.ofNat n.toNat) = (b.map fun n => UInt8.ofNat n.toNat) := by
    have := congrArg Array.toList h
    simpa using this
  clear h
  induction a generalizing b with
  | nil =>
    cases b with
    | nil => rfl
    | cons y b => simp at h2
  | cons x a ih =>
    cases b with
    | nil => simp at h2
    | cons y b =>
      rw [List.map_cons, List.map_cons] at h2
      injection h2 with e1 e2
      have hx := ha x (List.mem_cons_self ..)
      have hy := hb y (List.mem_cons_self ..)
      have e3 := congrArg UInt8.toNat e1
      rw [UInt8.toNat_ofNat', UInt8.toNat_ofNat'] at e3
      rw [ih (fun z hz => ha z (List.mem_cons_of_mem _ hz)) (fun z hz => hb z (List.mem_cons_of_mem _ hz)) e2, show x = y by omega]
theorem loop_eq (s : ByteArray) : ∀ (d i : Nat) (r : List UInt8), s.size - i = d → ByteArray.toList.loop s i r = r.reverse ++ s.data.toList.drop i := by
  intro d
  induction d with
  | zero =>
    intro i r h
    unfold ByteArray.toList.loop
    have hz : s.data.toList.length = s.size := by simp
    rw [if_neg (by omega), List.drop_of_length_le (by rw [hz]; omega), List.append_nil]
  | succ d ih =>
    intro i r h
    unfold ByteArray.toList.loop
    have hi : i < s.size := by omega
    have hi' : i < s.data.toList.length := by simpa using hi
    rw [if_pos hi, ih (i + 1) _ (by omega), List.drop_eq_getElem_cons hi']
    have hg : s.get! i = s.data.toList[i] := by
      unfold ByteArray.get!
      simp [hi]
    rw [hg, List.reverse_cons, List.append_assoc]
    rfl
theorem toList_inj {s t : ByteArray} (h : s.toList = t.toList) : s = t := by
  have h1 : ∀ u : ByteArray, u.toList = u.data.toList := fun u => by
    unfold ByteArray.toList
    rw [loop_eq u _ 0 [] rfl]
    rfl
  rw [h1, h1] at h
  cases s
  cases t
  simp at h
  rw [h]
theorem same_ev {a b : List Int} (ha : Dig a) (hb : Dig b) : lapidaryref00_Same.f a b = some (decide (a = b)) := by
  unfold lapidaryref00_Same.f
  congr 1
  by_cases h : a = b
  · subst h; simp
  · rw [decide_eq_false h]
    apply beq_eq_false_iff_ne.2
    intro e
    apply h
    refine str_inj ha hb ?_
    exact toList_inj e
end Go.Proofs.Ythegimfokcdehaa.CL
