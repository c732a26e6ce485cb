/- Arcs as numbers: what arcs may be, which numbers they are, and back; the plain side. -/
import Derived.Test.YtmfeokapjmpjfaaArcVB1
import Derived.Test.YtmfeokapjmpjfaaArcWalk
namespace Go.Proofs.Ytmfeokapjmpjfaa.ArcW
open Go Go.RowKit Go.Proofs.Ytmfeokapjmpjfaa.Mem Go.Proofs.Ytmfeokapjmpjfaa.VM Go.Proofs.Ytmfeokapjmpjfaa.VB Go.Proofs.Ytmfeokapjmpjfaa.PArc Go.Proofs.YtmfeokapjmpjfaaW.PrintWords Go.Proofs.YtmfeokapjmpjfaaW.PrintLast Go.Proofs.YtmfeokapjmpjfaaW.PrintMore
set_option linter.unusedVariables false
set_option linter.unusedSimpArgs false

/-- Points, one behind the other, so many at most. -/
def ptsS (G : Int → Int × Int × Int) : Nat → Int → Bool → S48 → List S48 → Int × Bool × S48 × List S48
  | 0, at_, bad, p, a => (at_, bad, p, a)
  | m + 1, at_, bad, p, a => if bad = true then (at_, bad, p, a) else ptsS G m (pointS G at_ bad p).2.1 (pointS G at_ bad p).2.2 (pointS G at_ bad p).1 (a ++ [(pointS G at_ bad p).1])

/-- Arcs, so many. -/
def arcsS (G : Int → Int × Int × Int) (L : Nat) : Nat → Int → Bool → S48 → List (List S48) → Int × Bool × List (List S48)
  | 0, at_, bad, p, out => (at_, bad, out)
  | m + 1, at_, bad, p, out =>
    if ((numS G at_ bad).2.2 || decide ((numS G at_ bad).1 > L) || decide (out.length > L)) = true then ((numS G at_ bad).2.1, true, out)
    else arcsS G L m (ptsS G (numS G at_ bad).1.toNat (numS G at_ bad).2.1 (numS G at_ bad).2.2 p []).1 (ptsS G (numS G at_ bad).1.toNat (numS G at_ bad).2.1 (numS G at_ bad).2.2 p []).2.1 (ptsS G (numS G at_ bad).1.toNat (numS G at_ bad).2.1 (numS G at_ bad).2.2 p []).2.2.1 (out ++ [(ptsS G (numS G at_ bad).1.toNat (numS G at_ bad).2.1 (numS G at_ bad).2.2 p []).2.2.2])

/-- What the arcs are, of all numbers, and whether they may be. -/
def decS (G : Int → Int × Int × Int) (L : Nat) : Int × Bool × List (List S48) := arcsS G L (numS G 0 false).1.toNat (numS G 0 false).2.1 (numS G 0 false).2.2 z48 []

def rgt (p : S48) : Prop := p.f2 = 0 ∧ -2147483648 ≤ p.f0 ∧ p.f0 ≤ 2147483647 ∧ -2147483648 ≤ p.f1 ∧ p.f1 ≤ 2147483647
instance (p : S48) : Decidable (rgt p) := by unfold rgt; infer_instance
def eqP (p q : S48) : Bool := p.f0 == q.f0 && (p.f1 == q.f1 && p.f2 == q.f2)
def difF : S48 → List S48 → Bool
  | _, [] => true
  | q, p :: r => !eqP p q && difF p r
def difA : List S48 → Bool
  | [] => true
  | p :: r => difF p r
def okA (a : List S48) : Bool := decide (2 ≤ a.length) && (a.all (fun p => decide (rgt p)) && difA a)
def tot (l : List (List S48)) : Nat := (l.map List.length).sum
/-- Whether arcs may be. -/
def chkS (l : List (List S48)) : Int := if l.length > 2000 ∨ tot l > 20000 then 3 else if l.all okA = true then 0 else 2

theorem tot_cons (a : List S48) (l : List (List S48)) : tot (a :: l) = a.length + tot l := by simp [tot]

theorem chk0 {l : List (List S48)} (h : chkS l = 0) : l.length ≤ 2000 ∧ tot l ≤ 20000 ∧ ∀ a ∈ l, okA a = true := by
  unfold chkS at h
  split at h
  · omega
  · rename_i h1
    split at h
    · rename_i h2
      exact ⟨by omega, by omega, fun a ha => List.all_eq_true.1 h2 a ha⟩
    · omega
theorem okA_rgt {a : List S48} (h : okA a = true) : 2 ≤ a.length ∧ ∀ p ∈ a, rgt p := by
  unfold okA at h
  simp only [Bool.and_eq_true, decide_eq_true_eq, List.all_eq_true] at h
  exact ⟨h.1, fun p hp => h.2.1 p hp⟩

def lastP : S48 → List S48 → S48
  | q, [] => q
  | _, p :: r => lastP p r
/-- The numbers of points. -/
def deltas : S48 → List S48 → List Int
  | _, [] => []
  | q, p :: r => zig (p.f0 - q.f0) :: zig (p.f1 - q.f1) :: deltas p r
def arcNums : S48 → List (List S48) → List Int
  | _, [] => []
  | q, a :: r => (a.length : Int) :: (deltas q a ++ arcNums (lastP q a) r)
def nums (l : List (List S48)) : List Int := (l.length : Int) :: arcNums z48 l

/-- Coordinates within reach. -/
def near (p : S48) : Prop := -2147483648 ≤ p.f0 ∧ p.f0 ≤ 2147483647 ∧ -2147483648 ≤ p.f1 ∧ p.f1 ≤ 2147483647
theorem rgt.near {p : S48} (h : rgt p) : near p := h.2
theorem near_z : near z48 := by unfold near z48; decide
theorem lastP_near {q : S48} {a : List S48} (hq : near q) (ha : ∀ p ∈ a, rgt p) : near (lastP q a) := by
  induction a generalizing q with
  | nil => exact hq
  | cons p r ih => exact ih (ha p (List.mem_cons_self ..)).near fun x hx => ha x (List.mem_cons_of_mem _ hx)

theorem zig_near {p q : S48} (hp : near p) (hq : near q) : (0 ≤ zig (p.f0 - q.f0) ∧ zig (p.f0 - q.f0) < 18446744073709551616) ∧ (0 ≤ zig (p.f1 - q.f1) ∧ zig (p.f1 - q.f1) < 18446744073709551616) := by
  unfold near at hp hq
  exact ⟨zig_range (by omega) (by omega), zig_range (by omega) (by omega)⟩

theorem deltas_len (q : S48) (a : List S48) : (deltas q a).length = 2 * a.length := by
  induction a generalizing q with
  | nil => rfl
  | cons p r ih => simp only [deltas, List.length_cons, ih]; omega
theorem arcNums_len (q : S48) (l : List (List S48)) : (arcNums q l).length = l.length + 2 * tot l := by
  induction l generalizing q with
  | nil => rfl
  | cons a r ih => simp only [arcNums, List.length_cons, List.length_append, deltas_len, ih, tot_cons]; omega

theorem encs_nonneg_len (u : List Int) : u.length ≤ (encs u).length := by
  induction u with
  | nil => exact Nat.le_refl _
  | cons x u ih => rw [encs_cons, List.length_append, List.length_cons]; have := enc_pos x.toNat; omega
theorem encs_len10 {u : List Int} (h : ∀ x ∈ u, 0 ≤ x ∧ x < 18446744073709551616) : (encs u).length ≤ 10 * u.length := by
  induction u with
  | nil => exact Nat.le_refl _
  | cons x u ih =>
    rw [encs_cons, List.length_append, List.length_cons]
    have := enc_len10 (n := x.toNat) (by have := h x (List.mem_cons_self ..); omega)
    have := ih fun y hy => h y (List.mem_cons_of_mem _ hy)
    omega

theorem deltas_u64 {q : S48} {a : List S48} (hq : near q) (ha : ∀ p ∈ a, rgt p) : ∀ x ∈ deltas q a, 0 ≤ x ∧ x < 18446744073709551616 := by
  induction a generalizing q with
  | nil => intro x hx; cases hx
  | cons p r ih =>
    have hp := (ha p (List.mem_cons_self ..)).near
    have hz := zig_near hp hq
    intro x hx
    simp only [deltas, List.mem_cons] at hx
    rcases hx with rfl | rfl | hx
    · exact hz.1
    · exact hz.2
    · exact ih hp (fun y hy => ha y (List.mem_cons_of_mem _ hy)) x hx
theorem arcNums_u64 {q : S48} {l : List (List S48)} (hq : near q) (ha : ∀ a ∈ l, (∀ p ∈ a, rgt p)) (hl : tot l ≤ 20000) : ∀ x ∈ arcNums q l, 0 ≤ x ∧ x < 18446744073709551616 := by
  induction l generalizing q with
  | nil => intro x hx; cases hx
  | cons a r ih =>
    have h1 := ha a (List.mem_cons_self ..)
    rw [tot_cons] at hl
    intro x hx
    simp only [arcNums, List.mem_cons, List.mem_append] at hx
    rcases hx with rfl | hx | hx
    · omega
    · exact deltas_u64 hq h1 x hx
    · exact ih (lastP_near hq h1) (fun b hb => ha b (List.mem_cons_of_mem _ hb)) (by omega) x hx

theorem chk0_rgt {l : List (List S48)} (h : chkS l = 0) : ∀ a ∈ l, (∀ p ∈ a, rgt p) := fun a ha => (okA_rgt ((chk0 h).2.2 a ha)).2
theorem nums_u64 {l : List (List S48)} (h : chkS l = 0) : ∀ x ∈ nums l, 0 ≤ x ∧ x < 18446744073709551616 := by
  have hc := chk0 h
  intro x hx
  simp only [nums, List.mem_cons] at hx
  rcases hx with rfl | hx
  · omega
  · exact arcNums_u64 near_z (chk0_rgt h) hc.2.1 x hx
theorem nums_len {l : List (List S48)} (h : chkS l = 0) : (nums l).length ≤ 42001 := by
  have hc := chk0 h
  simp only [nums, List.length_cons, arcNums_len]
  omega

/-! ### Numbers are told apart -/
theorem enc_inj {m n : Nat} {r s : List Int} (hm : m < 18446744073709551616) (hn : n < 18446744073709551616) (h : enc m ++ r = enc n ++ s) : m = n ∧ r = s := by
  have h1 := getS_enc m hm [] r
  have h2 := getS_enc n hn [] s
  rw [List.nil_append] at h1 h2
  rw [h, h2] at h1
  injection h1 with h1 h3
  have : m = n := by omega
  subst this
  exact ⟨rfl, List.append_cancel_left h⟩
theorem encs_prefix : ∀ {u v : List Int} {t : List Int}, (∀ x ∈ u, 0 ≤ x ∧ x < 18446744073709551616) → (∀ x ∈ v, 0 ≤ x ∧ x < 18446744073709551616) → encs u ++ t = encs v → ∃ s, v = u ++ s ∧ t = encs s := by
  intro u
  induction u with
  | nil => intro v t _ _ h; exact ⟨v, rfl, by rw [encs_nil, List.nil_append] at h; exact h⟩
  | cons x u ih =>
    intro v t hu hv h
    have hx := hu x (List.mem_cons_self ..)
    cases v with
    | nil =>
      rw [encs_nil, encs_cons, List.append_assoc, List.append_eq_nil_iff] at h
      exact absurd h.1 (enc_ne _)
    | cons y v =>
      have hy := hv y (List.mem_cons_self ..)
      rw [encs_cons, encs_cons, List.append_assoc] at h
      obtain ⟨h1, h2⟩ := enc_inj (by omega) (by omega) h
      obtain ⟨s, h3, h4⟩ := ih (fun z hz => hu z (List.mem_cons_of_mem _ hz)) (fun z hz => hv z (List.mem_cons_of_mem _ hz)) h2
      exact ⟨s, by rw [h3, show x = y by omega]; rfl, h4⟩

theorem zig_inj {a b : Int} (h : zig a = zig b) : a = b := by rw [← zag_zig a, ← zag_zig b, h]
theorem S48_ext {p q : S48} (h0 : p.f0 = q.f0) (h1 : p.f1 = q.f1) (h2 : p.f2 = q.f2) : p = q := by cases p; cases q; simp_all
theorem deltas_inj {q : S48} : ∀ {a b : List S48} {r s : List Int}, a.length = b.length → (∀ p ∈ a, rgt p) → (∀ p ∈ b, rgt p) → deltas q a ++ r = deltas q b ++ s → a = b ∧ r = s := by
  intro a
  induction a generalizing q with
  | nil =>
    intro b r s hl _ _ h
    cases b with
    | nil => exact ⟨rfl, h⟩
    | cons _ _ => cases hl
  | cons p a ih =>
    intro b r s hl ha hb h
    cases b with
    | nil => cases hl
    | cons p' b =>
      simp only [deltas, List.cons_append, List.cons.injEq] at h
      have e0 := zig_inj h.1
      have e1 := zig_inj h.2.1
      have hp := ha p (List.mem_cons_self ..)
      have hp' := hb p' (List.mem_cons_self ..)
      have e : p = p' := S48_ext (by omega) (by omega) (by rw [hp.1, hp'.1])
      subst e
      obtain ⟨h1, h2⟩ := ih (by simpa using hl) (fun x hx => ha x (List.mem_cons_of_mem _ hx)) (fun x hx => hb x (List.mem_cons_of_mem _ hx)) h.2.2
      exact ⟨by rw [h1], h2⟩
theorem arcNums_inj : ∀ {l k : List (List S48)} {q : S48} {r s : List Int}, l.length = k.length → (∀ a ∈ l, ∀ p ∈ a, rgt p) → (∀ a ∈ k, ∀ p ∈ a, rgt p) → arcNums q l ++ r = arcNums q k ++ s → l = k ∧ r = s := by
  intro l
  induction l with
  | nil =>
    intro k q r s hl _ _ h
    cases k with
    | nil => exact ⟨rfl, h⟩
    | cons _ _ => cases hl
  | cons a l ih =>
    intro k q r s hl ha hb h
    cases k with
    | nil => cases hl
    | cons b k =>
      simp only [arcNums, List.cons_append, List.append_assoc, List.cons.injEq] at h
      obtain ⟨h1, h2⟩ := deltas_inj (by omega) (ha a (List.mem_cons_self ..)) (hb b (List.mem_cons_self ..)) h.2
      subst h1
      obtain ⟨h3, h4⟩ := ih (by simpa using hl) (fun x hx => ha x (List.mem_cons_of_mem _ hx)) (fun x hx => hb x (List.mem_cons_of_mem _ hx)) h2
      exact ⟨by rw [h3], h4⟩
theorem nums_inj {l k : List (List S48)} {s : List Int} (hl : chkS l = 0) (hk : chkS k = 0) (h : nums k = nums l ++ s) : l = k ∧ s = [] := by
  simp only [nums, List.cons_append, List.cons.injEq] at h
  obtain ⟨h1, h2⟩ := arcNums_inj (r := s) (s := []) (by omega) (chk0_rgt hl) (chk0_rgt hk) (by rw [List.append_nil]; exact h.2.symm)
  exact ⟨h1, h2⟩
/-- The bytes of arcs, and no others behind them, are bytes of arcs. -/
theorem bytes_inj {l k : List (List S48)} {t : List Int} (hl : chkS l = 0) (hk : chkS k = 0) (h : encs (nums l) ++ t = encs (nums k)) : l = k ∧ t = [] := by
  obtain ⟨s, h1, h2⟩ := encs_prefix (nums_u64 hl) (nums_u64 hk) h
  obtain ⟨h3, h4⟩ := nums_inj hl hk h1
  exact ⟨h3, by rw [h2, h4]; rfl⟩
end Go.Proofs.Ytmfeokapjmpjfaa.ArcW
