/- arc.Decode's contract, in the print's form. -/
import Derived.Test.YtmfeokapjmpjfaaArcDec
import Derived.Test.YtmfeokapjmpjfaaArcDecP
import Derived.Test.YtmfeokapjmpjfaaArcChk
namespace Go.Proofs.Ytmfeokapjmpjfaa.ArcW
open Go Go.RowKit Go.Proofs.Ytmfeokapjmpjfaa.Mem Go.Proofs.Ytmfeokapjmpjfaa.VM Go.Proofs.Ytmfeokapjmpjfaa.VB Go.Proofs.Ytmfeokapjmpjfaa.PArc Go.Proofs.YtmfeokapjmpjfaaW.PrintWords Go.Proofs.YtmfeokapjmpjfaaW.PrintLast Go.Proofs.YtmfeokapjmpjfaaW.PrintMore
set_option linter.unusedVariables false
set_option linter.unusedSimpArgs false

theorem pts_len (G : Int → Int × Int × Int) : ∀ (m : Nat) (a : Int) (bad : Bool) (p : S48) (acc : List S48), (ptsS G m a bad p acc).2.2.2.length ≤ acc.length + m := by
  intro m
  induction m with
  | zero => intro a bad p acc; exact Nat.le_refl _
  | succ m ih =>
    intro a bad p acc
    rw [ptsS]
    split
    · show acc.length ≤ _; omega
    · have := ih (pointS G a bad p).2.1 (pointS G a bad p).2.2 (pointS G a bad p).1 (acc ++ [(pointS G a bad p).1])
      rw [List.length_append, List.length_singleton] at this
      omega
theorem arcs_len (G : Int → Int × Int × Int) (L : Nat) : ∀ (m : Nat) (a : Int) (bad : Bool) (p : S48) (out : List (List S48)), out.length ≤ L + 1 → (∀ x ∈ out, x.length ≤ L) → (arcsS G L m a bad p out).2.2.length ≤ L + 1 ∧ ∀ x ∈ (arcsS G L m a bad p out).2.2, x.length ≤ L := by
  intro m
  induction m with
  | zero => intro a bad p out h1 h2; exact ⟨h1, h2⟩
  | succ m ih =>
    intro a bad p out h1 h2
    rw [arcsS]
    split
    · exact ⟨h1, h2⟩
    · rename_i hc
      simp only [Bool.not_eq_true, Bool.or_eq_false_iff, decide_eq_false_iff_not] at hc
      refine ih _ _ _ _ (by rw [List.length_append, List.length_singleton]; omega) ?_
      intro x hx
      rcases List.mem_append.1 hx with hx | hx
      · exact h2 x hx
      · rw [List.mem_singleton] at hx
        subst hx
        have := pts_len G (numS G a bad).1.toNat (numS G a bad).2.1 (numS G a bad).2.2 p []
        rw [List.length_nil] at this
        omega
theorem tot_le {L : Nat} : ∀ {l : List (List S48)}, (∀ x ∈ l, x.length ≤ L) → tot l ≤ l.length * L := by
  intro l
  induction l with
  | nil => intro _; simp [tot]
  | cons a l ih =>
    intro h
    rw [tot_cons, List.length_cons, Nat.succ_mul]
    have := ih fun x hx => h x (List.mem_cons_of_mem _ hx)
    have := h a (List.mem_cons_self ..)
    omega
theorem scan_bad (xs : List Int) (a : Nat) : ∀ (cs : List Int) (i : Nat), (scan xs a cs i).2.2 = 0 ∨ (scan xs a cs i).1 = 0 := by
  intro cs
  induction cs with
  | nil => intro i; exact .inr rfl
  | cons c cs ih =>
    intro i
    rw [scan]
    repeat' split
    all_goals first | exact .inr rfl | exact .inl rfl | exact ih _
theorem getS_u64 {l : List Int} (hb : ∀ c ∈ l, 0 ≤ c ∧ c < 256) (a : Int) : 0 ≤ (getS l a).1 ∧ (getS l a).1 < 18446744073709551616 := by
  have h : (getS l a).2.2 = 0 ∨ (getS l a).1 = 0 := by
    unfold getS
    split
    · exact .inr rfl
    · split
      · exact .inr rfl
      · exact scan_bad _ _ _ _
  rcases h with h | h
  · exact (getS_ok (l := l) (a := a) (n := (getS l a).1) (e := (getS l a).2.1) hb (by rw [← h])).2.2.2.1
  · rw [h]; decide
theorem dec_chk (b : List Int) (hl : b.length ≤ 100000) : ∃ k, arc_Check.f k (decS (getS b) b.length).2.2 = some (chkS (decS (getS b) b.length).2.2) := by
  unfold decS
  obtain ⟨h1, h2⟩ := arcs_len (getS b) b.length (numS (getS b) 0 false).1.toNat (numS (getS b) 0 false).2.1 (numS (getS b) 0 false).2.2 z48 [] (by simp) (fun x hx => nomatch hx)
  have h3 := tot_le h2
  have h4 := Nat.mul_le_mul h1 (Nat.le_refl b.length)
  have h5 : (b.length + 1) * b.length ≤ 100001 * 100000 := Nat.mul_le_mul (by omega) hl
  exact (chk_ev _ (by omega) (by omega)).rounds
end Go.Proofs.Ytmfeokapjmpjfaa.ArcW
namespace Go.Proofs.Ytmfeokapjmpjfaa.PArc
open Go Go.RowKit Go.Proofs.Ytmfeokapjmpjfaa.Mem Go.Proofs.Ytmfeokapjmpjfaa.VM Go.Proofs.Ytmfeokapjmpjfaa.VB Go.Proofs.Ytmfeokapjmpjfaa.ArcW Go.Proofs.YtmfeokapjmpjfaaW.PrintWords Go.Proofs.YtmfeokapjmpjfaaW.PrintLast Go.Proofs.YtmfeokapjmpjfaaW.PrintMore
set_option linter.unusedVariables false
set_option linter.unusedSimpArgs false

def arc_Decode.f (l : List Int) : Option (List (List S48) × Int) := if l.length ≤ 100000 ∧ ∀ c ∈ l, 0 ≤ c ∧ c < 256 then some (decR l) else none

theorem arc_Decode.calls (A0 : Option Addr) (c0 : Nat) (l0 : List Int) (r1 : List (List S48)) (r2 : Int) (w : World) (hr0 : Kd.C (Kd.int .u8) w A0 l0.length l0) (hc0 : l0.length ≤ c0) (h : arc_Decode.f l0 = some (r1, r2)) :
    Calls Try.prog 12 #[.slice A0 l0.length c0] w fun e w' => ∃ v0_ : Value, e = .returned (.tuple #[v0_, .int .i64 r2]) ∧ Kd.S (Kd.slice 48 k48) 44 w' w.heap.size (fun _ => True) v0_ r1 ∧ Below w.heap.size w w' := by
  unfold arc_Decode.f at h
  split at h
  · rename_i hc
    obtain ⟨hl, hb⟩ := hc
    obtain ⟨k0, hk0⟩ := dec_chk l0 hl
    have hw := decode_calls w A0 l0 c0 (getS l0) (fun a => (get_ev l0 a hb (by omega)).rounds) (fun a => getS_u64 hb a) hl _ k0 hk0 hr0 hc0
    injection h with h
    unfold decR at h
    split at h
    · rename_i hd
      injection h with h1 h2
      subst h1; subst h2
      simp only [hd, if_true] at hw
      exact hw
    · rename_i hd
      injection h with h1 h2
      subst h1; subst h2
      simp only [hd, if_false] at hw
      exact hw
  · cases h
end Go.Proofs.Ytmfeokapjmpjfaa.PArc
