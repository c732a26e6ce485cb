/- The document's Decode, told plainly: it tells what arc.Decode tells. -/
import Derived.Test.YtmfeokapjmpjfaaArcEnc
import Derived.Test.YtmfeokapjmpjfaaArcStub
namespace Go.Proofs.Ytmfeokapjmpjfaa.ArcW
open Go Go.RowKit Go.Proofs.Ytmfeokapjmpjfaa.Mem Go.Proofs.Ytmfeokapjmpjfaa.VM Go.Proofs.Ytmfeokapjmpjfaa.VB Go.Proofs.Ytmfeokapjmpjfaa.PArc Go.Proofs.YtmfeokapjmpjfaaW.PrintWords Go.Proofs.YtmfeokapjmpjfaaW.PrintLast Go.Proofs.YtmfeokapjmpjfaaW.PrintMore
set_option linter.unusedVariables false
set_option linter.unusedSimpArgs false

/-- All the numbers, from a place on, or what is wrong. -/
theorem all_l0 (b : List Int) (hb : ∀ c ∈ b, 0 ≤ c ∧ c < 256) (hl : b.length ≤ 1000000000000) : ∀ (d : Nat) (acc : List Int) (i : Nat), b.length - i = d → i ≤ b.length → acc.length + d ≤ 1000000000000 →
    ∃ r : List Int × Int, Ev (fun k => lapidaryref01_All.l0 k b acc (i : Int)) r ∧ ((r.2 ≠ 0 ∧ ∀ u : List Int, (∀ x ∈ u, 0 ≤ x ∧ x < 18446744073709551616) → b.drop i ≠ VB.encs u) ∨ (r.2 = 0 ∧ ∃ u, r.1 = acc ++ u ∧ (∀ x ∈ u, 0 ≤ x ∧ x < 18446744073709551616) ∧ b.drop i = VB.encs u)) := by
  intro d
  induction d using Nat.strongRecOn with
  | _ d ih =>
    intro acc i hd hi hacc
    by_cases hlt : i < b.length
    · have hrg := rget_ev b i hb (by omega)
      by_cases he : (getS b i).2.2 = 0
      · obtain ⟨j, hj, hj1, hj2, hn, hdr⟩ := num_ok hb (i := i) (n := (getS b i).1) (t := (getS b i).2.1) (by unfold numS; simp [he])
        obtain ⟨r, h1, h2⟩ := ih (b.length - j) (by omega) (acc ++ [(getS b i).1]) j rfl hj2 (by rw [List.length_append, List.length_singleton]; omega)
        refine ⟨r, ?_, ?_⟩
        · refine Ev.step (f := fun k => (lapidaryref01_Get.f k b (i : Int)).bind fun bt275 => (if bt275.2.2 = 0 then (if acc.length < 17592186044416 then (lapidaryref01_All.l0 k b (acc ++ [bt275.1]) bt275.2.1) else (none)) else (some (([] : List Int), bt275.2.2)))) (fun k => ?_) (Ev.bind hrg (Ev.congr (fun k => ?_) h1))
          · simp only [lapidaryref01_All.l0]
            rw [if_pos (by omega)]
          · rw [if_pos he, if_pos (by omega), hj]
        · rcases h2 with ⟨h2, h3⟩ | ⟨h2, u, h3, h4, h5⟩
          · refine .inl ⟨h2, fun u hu hue => ?_⟩
            cases u with
            | nil => rw [VB.encs_nil] at hue; have := List.drop_eq_nil_iff.1 hue; omega
            | cons x u =>
              have hx := hu x (List.mem_cons_self ..)
              rw [VB.encs_cons, hdr] at hue
              obtain ⟨_, h6⟩ := enc_inj (by omega) (by omega) hue
              exact h3 u (fun y hy => hu y (List.mem_cons_of_mem _ hy)) h6
          · refine .inr ⟨h2, (getS b i).1 :: u, by rw [h3]; simp, ?_, by rw [hdr, h5, VB.encs_cons]⟩
            intro x hx
            rcases List.mem_cons.1 hx with rfl | hx
            · exact hn
            · exact h4 x hx
      · refine ⟨([], (getS b i).2.2), ?_, .inl ⟨he, fun u hu hue => ?_⟩⟩
        · refine Ev.step (f := fun k => (lapidaryref01_Get.f k b (i : Int)).bind fun bt275 => (if bt275.2.2 = 0 then (if acc.length < 17592186044416 then (lapidaryref01_All.l0 k b (acc ++ [bt275.1]) bt275.2.1) else (none)) else (some (([] : List Int), bt275.2.2)))) (fun k => ?_) (Ev.bind hrg (Ev.congr (fun k => ?_) (Ev.now _)))
          · simp only [lapidaryref01_All.l0]
            rw [if_pos (by omega)]
          · rw [if_neg he]
        · cases u with
          | nil => rw [VB.encs_nil] at hue; have := List.drop_eq_nil_iff.1 hue; omega
          | cons x u =>
            have hx := hu x (List.mem_cons_self ..)
            rw [VB.encs_cons] at hue
            have := num_enc (b := b) (i := i) hue (by omega)
            unfold numS at this
            simp at this
            exact he this.2.2
    · have hn : b.drop i = [] := List.drop_eq_nil_iff.2 (by omega)
      refine ⟨(acc, 0), ?_, .inr ⟨rfl, [], by simp, (fun _ hx => nomatch hx), hn⟩⟩
      refine Ev.step (f := fun _ => some (acc, 0)) (fun k => ?_) (Ev.now _)
      simp only [lapidaryref01_All.l0]
      rw [if_neg (by omega)]

/-- Arcs out of numbers. -/
def numsP : Nat → S48 → List Int → Option (List S48 × S48 × List Int)
  | 0, p, u => some ([], p, u)
  | m + 1, p, x :: y :: u =>
    if farV (zag x) = true ∨ farV (zag y) = true then none
    else if rgt ⟨p.f0 + zag x, p.f1 + zag y, 0⟩ then (numsP m ⟨p.f0 + zag x, p.f1 + zag y, 0⟩ u).map fun t => (⟨p.f0 + zag x, p.f1 + zag y, 0⟩ :: t.1, t.2)
    else none
  | _ + 1, _, _ => none

theorem numsP_ok : ∀ (m : Nat) (p : S48) (u : List Int) (pts : List S48) (q : S48) (v : List Int), (∀ x ∈ u, 0 ≤ x ∧ x < 18446744073709551616) → numsP m p u = some (pts, q, v) → u = deltas p pts ++ v ∧ pts.length = m ∧ q = lastP p pts ∧ ∀ x ∈ pts, rgt x := by
  intro m
  induction m with
  | zero =>
    intro p u pts q v hu h
    rw [numsP] at h
    injection h with h
    injection h with h1 h2
    injection h2 with h2 h3
    subst h1; subst h2; subst h3
    exact ⟨rfl, rfl, rfl, fun _ hx => nomatch hx⟩
  | succ m ih =>
    intro p u pts q v hu h
    match u, hu, h with
    | [], _, h => simp [numsP] at h
    | [x], _, h => simp [numsP] at h
    | x :: y :: u, hu, h =>
      rw [numsP] at h
      split at h
      · cases h
      · split at h
        · rename_i hr
          rw [Option.map_eq_some_iff] at h
          obtain ⟨⟨a, b, c⟩, h1, h2⟩ := h
          injection h2 with h3 h4
          injection h4 with h4 h5
          subst h3; subst h4; subst h5
          obtain ⟨rfl, rfl, rfl, h6⟩ := ih _ _ _ _ _ (fun z hz => hu z (List.mem_cons_of_mem _ (List.mem_cons_of_mem _ hz))) h1
          refine ⟨?_, rfl, rfl, ?_⟩
          · have hx := hu x (List.mem_cons_self ..)
            have hy := hu y (List.mem_cons_of_mem _ (List.mem_cons_self ..))
            simp only [deltas, List.cons_append]
            rw [show p.f0 + zag x - p.f0 = zag x by omega, show p.f1 + zag y - p.f1 = zag y by omega, zig_zag _ hx.1, zig_zag _ hy.1]
          · intro z hz
            rcases List.mem_cons.1 hz with rfl | hz
            · exact hr
            · exact h6 z hz
        · cases h
theorem numsP_enc : ∀ (pts : List S48) (p : S48) (v : List Int), near p → (∀ x ∈ pts, rgt x) → numsP pts.length p (deltas p pts ++ v) = some (pts, lastP p pts, v) := by
  intro pts
  induction pts with
  | nil => intro p v hp hr; rfl
  | cons q pts ih =>
    intro p v hp hr
    have hq := hr q (List.mem_cons_self ..)
    have hn := hq.near
    have hp' := hp
    unfold near at hn hp'
    have e : (⟨p.f0 + (q.f0 - p.f0), p.f1 + (q.f1 - p.f1), 0⟩ : S48) = q := S48_ext (by show p.f0 + (q.f0 - p.f0) = q.f0; omega) (by show p.f1 + (q.f1 - p.f1) = q.f1; omega) hq.1.symm
    rw [List.length_cons]
    simp only [deltas, List.cons_append]
    rw [numsP, zag_zig, zag_zig, e, if_neg (by rw [farV_false.2 (by omega), farV_false.2 (by omega)]; decide), if_pos hq, ih q v hq.near fun x hx => hr x (List.mem_cons_of_mem _ hx)]
    rfl
theorem numsP_len : ∀ (m : Nat) (p : S48) (u : List Int), u.length < 2 * m → numsP m p u = none := by
  intro m
  induction m with
  | zero => intro p u h; omega
  | succ m ih =>
    intro p u h
    match u, h with
    | [], _ => rw [numsP]; · intros; simp_all
    | [x], _ => rw [numsP]; · intros; simp_all
    | x :: y :: u, h =>
      rw [numsP]
      split
      · rfl
      · split
        · rw [ih _ _ (by simp only [List.length_cons] at h; omega)]; rfl
        · rfl

def numsA : Nat → S48 → List Int → Option (List (List S48) × List Int)
  | 0, p, u => some ([], u)
  | n + 1, p, k :: u => (numsP k.toNat p u).bind fun t => (numsA n t.2.1 t.2.2).map fun s => (t.1 :: s.1, s.2)
  | _ + 1, _, [] => none
theorem numsA_ok : ∀ (n : Nat) (p : S48) (u : List Int) (l : List (List S48)) (v : List Int), (∀ x ∈ u, 0 ≤ x ∧ x < 18446744073709551616) → numsA n p u = some (l, v) → u = arcNums p l ++ v ∧ l.length = n ∧ ∀ a ∈ l, ∀ x ∈ a, rgt x := by
  intro n
  induction n with
  | zero =>
    intro p u l v hu h
    rw [numsA] at h
    injection h with h
    injection h with h1 h2
    subst h1; subst h2
    exact ⟨rfl, rfl, fun _ hx => nomatch hx⟩
  | succ n ih =>
    intro p u l v hu h
    match u, hu, h with
    | [], _, h => simp [numsA] at h
    | k :: u, hu, h =>
      rw [numsA, Option.bind_eq_some_iff] at h
      obtain ⟨⟨a, q, w⟩, h1, h2⟩ := h
      rw [Option.map_eq_some_iff] at h2
      obtain ⟨⟨s, t⟩, h2, h3⟩ := h2
      injection h3 with h3 h4
      subst h3; subst h4
      have hk := hu k (List.mem_cons_self ..)
      have hu' : ∀ x ∈ u, 0 ≤ x ∧ x < 18446744073709551616 := fun z hz => hu z (List.mem_cons_of_mem _ hz)
      obtain ⟨rfl, hlen, rfl, hr⟩ := numsP_ok _ _ _ _ _ _ hu' h1
      obtain ⟨h5, h6, h7⟩ := ih _ _ _ _ (fun z hz => hu' z (List.mem_append_right _ hz)) h2
      dsimp only at h5 h6 h7
      subst h5; subst h6
      refine ⟨?_, rfl, ?_⟩
      · simp only [arcNums, List.cons_append, List.append_assoc, List.cons.injEq, and_true]
        omega
      · intro b hb
        rcases List.mem_cons.1 hb with rfl | hb
        · exact hr
        · exact h7 b hb
theorem numsA_enc : ∀ (l : List (List S48)) (p : S48) (v : List Int), near p → (∀ a ∈ l, ∀ x ∈ a, rgt x) → numsA l.length p (arcNums p l ++ v) = some (l, v) := by
  intro l
  induction l with
  | nil => intro p v hp hr; rfl
  | cons a l ih =>
    intro p v hp hr
    have ha := hr a (List.mem_cons_self ..)
    rw [List.length_cons]
    simp only [arcNums, List.cons_append, List.append_assoc]
    rw [numsA, Int.toNat_natCast, numsP_enc a p _ hp ha]
    simp only [Option.bind_some]
    rw [ih (lastP p a) v (lastP_near hp ha) fun b hb => hr b (List.mem_cons_of_mem _ hb)]
    rfl
theorem numsA_none {n : Nat} {p : S48} (h : 0 < n) : numsA n p [] = none := by
  cases n with
  | zero => omega
  | succ n => rfl

/-- What the document's Decode makes of all the numbers. -/
def finS : Option (List (List S48) × List Int) → List (List S48) × Int
  | some (l, []) => if chkS l = 0 then (l, 0) else ([], 11)
  | _ => ([], 11)
def preS (out : List (List S48)) (o : Option (List (List S48) × List Int)) : Option (List (List S48) × List Int) := o.map fun s => (out ++ s.1, s.2)

theorem rdI {u cs : List Int} {c : Int} {i : Nat} (h : u.drop i = c :: cs) : rd u (i : Int) = c := VB.rd_at h
theorem tot_append (l k : List (List S48)) : tot (l ++ k) = tot l + tot k := by simp [tot]

end Go.Proofs.Ytmfeokapjmpjfaa.ArcW
