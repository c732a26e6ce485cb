/- Numberings, and back: the plain side of IsoBack. -/
import Derived.Test.YtbdpfmpbooikiaaDoorPIsox2
namespace Go.Proofs.YtbdpfmpbooikiaaDoor.IsoB
open Go Go.RowKit Go.Proofs.YtbdpfmpbooikiaaDoor.PIso Go.Proofs.YtbdpfmpbooikiaaDoorW.PrintWords Go.Proofs.YtbdpfmpbooikiaaDoorW.PrintLast Go.Proofs.YtbdpfmpbooikiaaDoorW.PrintMore
set_option linter.unusedVariables false
set_option linter.unusedSimpArgs false

theorem w64 {x : Int} (h0 : -9223372036854775808 ≤ x) (h1 : x < 9223372036854775808) : wrap64 x = x := by unfold wrap64; omega
theorem sub_len {α : Type} [DecidableEq α] : ∀ {m l : List α}, m.Nodup → (∀ x ∈ m, x ∈ l) → m.length ≤ l.length := by
  intro m
  induction m with
  | nil => intro l _ _; exact Nat.zero_le _
  | cons a m ih =>
    intro l hn hs
    have ha := hs a (List.mem_cons_self ..)
    rw [List.nodup_cons] at hn
    have h1 := ih (l := l.erase a) hn.2 fun x hx => by
      have hne : x ≠ a := fun h => hn.1 (h ▸ hx)
      exact (List.mem_erase_of_ne hne).2 (hs x (List.mem_cons_of_mem _ hx))
    rw [List.length_erase_of_mem ha] at h1
    have := List.length_pos_of_mem ha
    rw [List.length_cons]
    omega

def at_ (l : List Int) (i : Nat) : Int := l.getD i 0
theorem at_eq {l : List Int} {i : Nat} (h : i < l.length) : at_ l i = l[i] := by unfold at_; rw [List.getD_eq_getElem?_getD, List.getElem?_eq_getElem h]; rfl
theorem rd_nat (l : List Int) (i : Nat) : rd l (i : Int) = at_ l i := by unfold rd at_; rw [Int.toNat_natCast]

/-- A numbering: each number is a place, and no two are the same. -/
def Num (l : List Int) : Prop := (∀ i, i < l.length → 0 ≤ at_ l i ∧ at_ l i < l.length) ∧ ∀ i j, i < l.length → j < l.length → at_ l i = at_ l j → i = j
def Onto (l : List Int) : Prop := ∀ v : Nat, v < l.length → ∃ i, i < l.length ∧ at_ l i = v
theorem mem_at {l : List Int} {x : Int} : x ∈ l ↔ ∃ i, i < l.length ∧ at_ l i = x := by
  constructor
  · intro h
    obtain ⟨i, hi, rfl⟩ := List.getElem_of_mem h
    exact ⟨i, hi, at_eq hi⟩
  · rintro ⟨i, hi, rfl⟩
    rw [at_eq hi]
    exact List.getElem_mem hi
def rng (n : Nat) : List Int := (List.range n).map fun i : Nat => (i : Int)
theorem rng_nodup (n : Nat) : (rng n).Nodup := by
  unfold rng
  rw [List.Nodup, List.pairwise_map]
  exact List.nodup_range.imp fun h => by omega
theorem mem_rng {n : Nat} {x : Int} : x ∈ rng n ↔ 0 ≤ x ∧ x < n := by
  unfold rng
  rw [List.mem_map]
  constructor
  · rintro ⟨i, hi, rfl⟩
    have := List.mem_range.1 hi
    omega
  · rintro ⟨h0, h1⟩
    exact ⟨x.toNat, List.mem_range.2 (by omega), by omega⟩
theorem rng_len (n : Nat) : (rng n).length = n := by simp [rng]
theorem nodup_of {l : List Int} (h : ∀ i j, i < l.length → j < l.length → at_ l i = at_ l j → i = j) : l.Nodup := by
  rw [List.nodup_iff_pairwise_ne, List.pairwise_iff_getElem]
  intro i j hi hj hij he
  rw [← at_eq hi, ← at_eq hj] at he
  have := h i j hi hj he
  omega
theorem onto_of_num {l : List Int} (h : Num l) : Onto l := by
  intro v hv
  have hd := nodup_of h.2
  rcases Classical.em ((v : Int) ∈ l) with hm | hm
  · exact mem_at.1 hm
  · exfalso
    have h1 : ((v : Int) :: l).Nodup := List.nodup_cons.2 ⟨hm, hd⟩
    have h2 := sub_len (l := rng l.length) h1 fun x hx => by
      rcases List.mem_cons.1 hx with rfl | hx
      · exact mem_rng.2 (by omega)
      · obtain ⟨i, hi, rfl⟩ := mem_at.1 hx
        exact mem_rng.2 (h.1 i hi)
    rw [List.length_cons, rng_len] at h2
    omega
theorem num_of_onto {l : List Int} (h : Onto l) : Num l := by
  have hkey : ∀ i, i < l.length → (∀ v : Nat, v < l.length → ∃ j, j < l.length ∧ j ≠ i ∧ at_ l j = v) → False := by
    intro i hi hv
    have h1 := sub_len (l := l.eraseIdx i) (rng_nodup l.length) fun x hx => by
      obtain ⟨h0, h1⟩ := mem_rng.1 hx
      obtain ⟨j, hj, hji, he⟩ := hv x.toNat (by omega)
      rw [List.mem_eraseIdx_iff_getElem]
      exact ⟨j, hj, hji, by rw [← at_eq hj, he]; omega⟩
    rw [rng_len, List.length_eraseIdx_of_lt hi] at h1
    omega
  refine ⟨fun i hi => ?_, fun i j hi hj he => ?_⟩
  · rcases Classical.em (0 ≤ at_ l i ∧ at_ l i < l.length) with hr | hr
    · exact hr
    · exfalso
      refine hkey i hi fun v hv => ?_
      obtain ⟨j, hj, he⟩ := h v hv
      exact ⟨j, hj, fun hji => by subst hji; omega, he⟩
  · rcases Classical.em (i = j) with hr | hr
    · exact hr
    · exfalso
      refine hkey i hi fun v hv => ?_
      obtain ⟨k, hk, hke⟩ := h v hv
      rcases Classical.em (k = i) with hki | hki
      · subst hki
        exact ⟨j, hj, fun h => hr h.symm, by rw [← he, hke]⟩
      · exact ⟨k, hk, hki, hke⟩

theorem set_at {l : List Int} {i j : Nat} {x : Int} (hi : i < l.length) : at_ (l.set i x) j = if i = j then x else at_ l j := by
  unfold at_
  rw [List.getD_eq_getElem?_getD, List.getD_eq_getElem?_getD, List.getElem?_set]
  split
  · rename_i h; subst h; first | rfl | (rw [if_pos hi]; rfl)
  · rfl
theorem set_ob {l : List Bool} {i j : Nat} {x : Bool} (hi : i < l.length) : (l.set i x).getD j false = if i = j then x else l.getD j false := by
  rw [List.getD_eq_getElem?_getD, List.getD_eq_getElem?_getD, List.getElem?_set]
  split
  · rename_i h; subst h; first | rfl | (rw [if_pos hi]; rfl)
  · rfl

/-- What the program's Back is up to. -/
def Told (l : List Int) (r : List Int × Bool) : Prop := (r = ([], false) ∧ ¬ Num l) ∨ (r.2 = true ∧ Num l ∧ r.1.length = l.length ∧ ∀ j, j < l.length → at_ r.1 (at_ l j).toNat = j)

theorem back_l0 (l : List Int) (hl : l.length ≤ 1000000) : ∀ (d i : Nat) (o : List Int) (s : List Bool), l.length - i = d → i ≤ l.length → o.length = l.length → s.length = l.length →
    (∀ j, j < i → 0 ≤ at_ l j ∧ at_ l j < l.length ∧ at_ o (at_ l j).toNat = j) → (∀ j k, j < i → k < i → at_ l j = at_ l k → j = k) → (∀ v : Nat, v < l.length → (s.getD v false = true ↔ ∃ j, j < i ∧ at_ l j = v)) →
    ∃ r, Ev (fun k => iso_Back.l0 k l o s true l (l.length : Int) (i : Int)) r ∧ Told l r := by
  intro d
  induction d with
  | zero =>
    intro i o s hd hi ho hs h1 h2 h3
    have hil : i = l.length := by omega
    subst hil
    refine ⟨(o, true), Ev.step (f := fun _ => some (o, true)) (fun k => ?_) (Ev.now _), .inr ⟨rfl, ⟨fun j hj => ⟨(h1 j hj).1, (h1 j hj).2.1⟩, fun j k hj hk => h2 j k hj hk⟩, ho, fun j hj => (h1 j hj).2.2⟩⟩
    simp only [iso_Back.l0, if_true]
    rw [if_neg (by omega)]
  | succ d ih =>
    intro i o s hd hi ho hs h1 h2 h3
    have hlt : i < l.length := by omega
    have hbad : ¬ Num l → (∀ k, iso_Back.l0 (k + 1) l o s true l (l.length : Int) (i : Int) = some (([] : List Int), false)) → ∃ r, Ev (fun k => iso_Back.l0 k l o s true l (l.length : Int) (i : Int)) r ∧ Told l r := by
      intro hn hk
      exact ⟨([], false), Ev.step (f := fun _ => some ([], false)) hk (Ev.now _), .inl ⟨rfl, hn⟩⟩
    by_cases g1 : at_ l i < 0
    · refine hbad (fun hn => by have := (hn.1 i hlt).1; omega) fun k => ?_
      simp only [iso_Back.l0]
      rw [if_pos (by omega), if_pos (by omega), if_pos (by omega), rd_nat, if_pos g1]
    · by_cases g2 : at_ l i ≥ (l.length : Int)
      · refine hbad (fun hn => by have := (hn.1 i hlt).2; omega) fun k => ?_
        simp only [iso_Back.l0]
        rw [if_pos (by omega), if_pos (by omega), if_pos (by omega), rd_nat, if_neg g1, if_pos g2]
      · obtain ⟨v, hv⟩ : ∃ v : Nat, at_ l i = v := ⟨(at_ l i).toNat, by omega⟩
        have hvl : v < l.length := by omega
        have hrs : rdOf false s (at_ l i) = s.getD v false := by unfold rdOf; rw [hv, Int.toNat_natCast]
        by_cases g3 : s.getD v false = true
        · obtain ⟨j, hj, hje⟩ := (h3 v hvl).1 g3
          refine hbad (fun hn => by have := hn.2 j i (by omega) hlt (by rw [hje, hv]); omega) fun k => ?_
          simp only [iso_Back.l0]
          rw [if_pos (by omega), if_pos (by omega), if_pos (by omega), rd_nat, if_neg g1, if_neg g2, if_pos (by omega), if_pos (by omega), hrs, if_pos g3]
        · have hnew : ∀ j, j < i → at_ l j ≠ v := fun j hj he => g3 ((h3 v hvl).2 ⟨j, hj, he⟩)
          obtain ⟨r, hr1, hr2⟩ := ih (i + 1) (o.set v (i : Int)) (s.set v true) (by omega) (by omega) (by simp [ho]) (by simp [hs])
            (fun j hj => by
              rcases Nat.lt_or_ge j i with hji | hji
              · obtain ⟨a1, a2, a3⟩ := h1 j hji
                have := hnew j hji
                exact ⟨a1, a2, by rw [set_at (by omega), if_neg (by omega), a3]⟩
              · have : j = i := by omega
                subst this
                exact ⟨by omega, by omega, by rw [hv, Int.toNat_natCast, set_at (by omega), if_pos rfl]⟩)
            (fun j k hj hk he => by
              rcases Nat.lt_or_ge j i with hji | hji
              · rcases Nat.lt_or_ge k i with hki | hki
                · exact h2 j k hji hki he
                · have : k = i := by omega
                  subst this
                  exact absurd (by rw [he, hv]) (hnew j hji)
              · have : j = i := by omega
                subst this
                rcases Nat.lt_or_ge k j with hki | hki
                · exact absurd (by rw [← he, hv]) (hnew k hki)
                · omega)
            (fun u hu => by
              rw [set_ob (by omega)]
              by_cases huv : v = u
              · subst huv
                rw [if_pos rfl]
                exact ⟨fun _ => ⟨i, by omega, hv⟩, fun _ => rfl⟩
              · rw [if_neg huv, h3 u hu]
                constructor
                · rintro ⟨j, hj, he⟩
                  exact ⟨j, by omega, he⟩
                · rintro ⟨j, hj, he⟩
                  refine ⟨j, ?_, he⟩
                  rcases Nat.lt_or_ge j i with hji | hji
                  · exact hji
                  · have : j = i := by omega
                    subst this
                    omega)
          refine ⟨r, Ev.step (fun k => ?_) hr1, hr2⟩
          simp only [iso_Back.l0]
          rw [if_pos (by omega), if_pos (by omega), if_pos (by omega), rd_nat, if_neg g1, if_neg g2, if_pos (by omega), if_pos (by omega), hrs, if_neg g3, if_pos (by omega), hv, Int.toNat_natCast, w64 (by omega) (by omega)]
          rfl
theorem back_ev (l : List Int) (hl : l.length ≤ 1000000) : ∃ r, Ev (fun k => iso_Back.f k l) r ∧ Told l r := by
  obtain ⟨r, h1, h2⟩ := back_l0 l hl l.length 0 (List.replicate l.length 0) (List.replicate l.length false) rfl (Nat.zero_le _) (by simp) (by simp) (fun j hj => by omega) (fun j k hj => by omega)
    (fun v hv => ⟨fun h => by simp [List.getD_eq_getElem?_getD, List.getElem?_replicate, hv] at h, fun ⟨j, hj, _⟩ => by omega⟩)
  refine ⟨r, Ev.congr (fun k => ?_) h1, h2⟩
  unfold iso_Back.f
  rw [if_pos (by omega), Int.toNat_natCast, if_pos (by omega), if_pos (by omega)]
  rfl

/-! ### The document's Back -/
theorem rback_l1 (l : List Int) (hl : l.length ≤ 1000000) (o : List Int) (ho : o.length ≤ 1000000) (v : Nat) (hv : v < l.length) (P : List Int × Bool → Prop)
    (hyes : ∀ i : Nat, i < l.length → at_ l i = v → ∃ r, Ev (fun k => lapidaryref13_Back.l0 k l (o ++ [(i : Int)]) ((v + 1 : Nat) : Int)) r ∧ P r) (hno : (∀ i, i < l.length → at_ l i ≠ v) → P ([], false)) :
    ∀ (d i : Nat) (a : Int), l.length - i = d → i ≤ l.length → (a = -1 ∧ ∀ j, j < i → at_ l j ≠ v) ∨ (∃ j : Nat, j < i ∧ a = j ∧ at_ l j = v) →
    ∃ r, Ev (fun k => lapidaryref13_Back.l1 k l o (v : Int) a (i : Int)) r ∧ P r := by
  intro d
  induction d with
  | zero =>
    intro i a hd hi ha
    have hil : i = l.length := by omega
    subst hil
    rcases ha with ⟨rfl, hn⟩ | ⟨j, hj, rfl, he⟩
    · refine ⟨([], false), Ev.step (f := fun _ => some ([], false)) (fun k => ?_) (Ev.now _), hno hn⟩
      simp only [lapidaryref13_Back.l1]
      rw [if_neg (by omega), if_pos (by omega)]
    · obtain ⟨r, h1, h2⟩ := hyes j hj he
      refine ⟨r, Ev.step (fun k => ?_) h1, h2⟩
      simp only [lapidaryref13_Back.l1]
      rw [if_neg (by omega), if_neg (by omega), if_pos (by omega), w64 (by omega) (by omega)]
      rfl
  | succ d ih =>
    intro i a hd hi ha
    have hlt : i < l.length := by clear ha; omega
    have hd1 : l.length - (i + 1) = d := by clear ha; omega
    by_cases he : at_ l i = v
    · obtain ⟨r, h1, h2⟩ := ih (i + 1) (i : Int) hd1 hlt (.inr ⟨i, by omega, rfl, he⟩)
      clear ha ih
      refine ⟨r, Ev.step (fun k => ?_) h1, h2⟩
      simp only [lapidaryref13_Back.l1]
      rw [if_pos (by omega), if_pos (by omega), rd_nat, if_pos he, w64 (by omega) (by omega)]
      rfl
    · obtain ⟨r, h1, h2⟩ := ih (i + 1) a hd1 hlt (by
        rcases ha with ⟨rfl, hn⟩ | ⟨j, hj, rfl, hje⟩
        · refine .inl ⟨rfl, fun j hj => ?_⟩
          rcases Nat.lt_or_ge j i with h | h
          · exact hn j h
          · have : j = i := by omega
            subst this
            exact he
        · exact .inr ⟨j, by omega, rfl, hje⟩)
      clear ha ih
      refine ⟨r, Ev.step (fun k => ?_) h1, h2⟩
      simp only [lapidaryref13_Back.l1]
      rw [if_pos (by omega), if_pos (by omega), rd_nat, if_neg he, w64 (by omega) (by omega)]
      rfl
def RTold (l : List Int) (r : List Int × Bool) : Prop := (r = ([], false) ∧ ¬ Onto l) ∨ (r.2 = true ∧ Onto l ∧ r.1.length = l.length ∧ ∀ v, v < l.length → ∃ i : Nat, i < l.length ∧ at_ r.1 v = i ∧ at_ l i = v)
theorem rback_l0 (l : List Int) (hl : l.length ≤ 1000000) : ∀ (d v : Nat) (o : List Int), l.length - v = d → v ≤ l.length → o.length = v → (∀ u, u < v → ∃ i : Nat, i < l.length ∧ at_ o u = i ∧ at_ l i = u) →
    ∃ r, Ev (fun k => lapidaryref13_Back.l0 k l o (v : Int)) r ∧ RTold l r := by
  intro d
  induction d with
  | zero =>
    intro v o hd hv ho h1
    have hil : v = l.length := by omega
    subst hil
    refine ⟨(o, true), Ev.step (f := fun _ => some (o, true)) (fun k => ?_) (Ev.now _), .inr ⟨rfl, fun u hu => by obtain ⟨i, a, _, c⟩ := h1 u hu; exact ⟨i, a, c⟩, ho, h1⟩⟩
    simp only [lapidaryref13_Back.l0]
    rw [if_neg (by omega)]
  | succ d ih =>
    intro v o hd hv ho h1
    have hlt : v < l.length := by omega
    obtain ⟨r, g1, g2⟩ := rback_l1 l hl o (by omega) v hlt (RTold l) (fun i hi he => ih (v + 1) (o ++ [(i : Int)]) (by omega) (by omega) (by simp [ho]) (fun u hu => by
        rcases Nat.lt_or_ge u v with h | h
        · obtain ⟨j, a, b, c⟩ := h1 u h
          refine ⟨j, a, ?_, c⟩
          unfold at_ at b ⊢
          rw [List.getD_eq_getElem?_getD, List.getElem?_append_left (by omega), ← List.getD_eq_getElem?_getD]
          exact b
        · have : u = v := by omega
          subst this
          refine ⟨i, hi, ?_, he⟩
          unfold at_
          rw [List.getD_eq_getElem?_getD, List.getElem?_append_right (by omega), ho, Nat.sub_self]
          rfl)) (fun hn => .inl ⟨rfl, fun h => by obtain ⟨i, hi, he⟩ := h v hlt; exact hn i hi he⟩) l.length 0 (-1) rfl (Nat.zero_le _) (.inl ⟨rfl, fun j hj => by omega⟩)
    refine ⟨r, Ev.step (fun k => ?_) g1, g2⟩
    simp only [lapidaryref13_Back.l0]
    rw [if_pos (by omega)]
    rfl
theorem rback_ev (l : List Int) (hl : l.length ≤ 1000000) : ∃ r, Ev (fun k => lapidaryref13_Back.f k l) r ∧ RTold l r := rback_l0 l hl l.length 0 [] rfl (Nat.zero_le _) rfl (fun u hu => by omega)

theorem list_eq {a b : List Int} (hl : a.length = b.length) (h : ∀ i, i < a.length → at_ a i = at_ b i) : a = b := by
  refine List.ext_getElem hl fun i h1 h2 => ?_
  rw [← at_eq h1, ← at_eq h2]
  exact h i h1
theorem both_same {l : List Int} {r s : List Int × Bool} (hr : Told l r) (hs : RTold l s) : r = s := by
  rcases hr with ⟨rfl, hn⟩ | ⟨h1, h2, h3, h4⟩
  · rcases hs with ⟨rfl, _⟩ | ⟨_, ho, _⟩
    · rfl
    · exact absurd (num_of_onto ho) hn
  · rcases hs with ⟨rfl, ho⟩ | ⟨g1, g2, g3, g4⟩
    · exact absurd (onto_of_num h2) ho
    · refine Prod.ext (list_eq (by omega) fun v hv => ?_) (by rw [h1, g1])
      obtain ⟨i, hi, he, hiv⟩ := g4 v (by omega)
      have := h4 i hi
      rw [hiv, Int.toNat_natCast] at this
      rw [this, he]
theorem twice {l : List Int} {r s : List Int × Bool} (hr : Told l r) (hok : r.2 = true) (hs : Told r.1 s) : s = (l, true) := by
  rcases hr with ⟨rfl, _⟩ | ⟨_, h2, h3, h4⟩
  · cases hok
  · have ho := onto_of_num h2
    have hnr : Num r.1 := by
      refine num_of_onto fun v hv => ?_
      rw [h3] at hv ⊢
      have := h2.1 v hv
      exact ⟨(at_ l v).toNat, by omega, h4 v hv⟩
    rcases hs with ⟨_, hn⟩ | ⟨g1, g2, g3, g4⟩
    · exact absurd hnr hn
    · refine Prod.ext (list_eq (by rw [g3, h3]) fun j hj => ?_) g1
      rw [g3, h3] at hj
      have hb := h2.1 j hj
      have h5 := g4 (at_ l j).toNat (by omega)
      rw [h4 j hj, Int.toNat_natCast] at h5
      show at_ s.1 j = at_ l j
      rw [h5]
      omega

theorem ints_same (a : List Int) (ha : a.length ≤ 1000000) : Ev (fun k => lapidaryref00_SameInts.f k a a) true := by
  have h1 : ∀ (d i : Nat), a.length - i = d → Ev (fun k => lapidaryref00_SameInts.l0 k a a (i : Int)) true := by
    intro d
    induction d with
    | zero =>
      intro i hd
      refine Ev.step (f := fun _ => some true) (fun k => ?_) (Ev.now _)
      simp only [lapidaryref00_SameInts.l0]
      rw [if_neg (by omega)]
    | succ d ih =>
      intro i hd
      refine Ev.step (fun k => ?_) (ih (i + 1) (by omega))
      simp only [lapidaryref00_SameInts.l0, if_true]
      rw [if_pos (by omega), if_pos (by omega), if_pos (by omega), w64 (by omega) (by omega)]
      rfl
  refine Ev.congr (fun k => ?_) (h1 a.length 0 rfl)
  unfold lapidaryref00_SameInts.f
  rw [if_pos rfl]
  rfl

theorem isoBack (l : List Int) : ∃ k, lapidarylaw13_IsoBack.f k l = some true := by
  by_cases hl : (l.length : Int) > 80
  · refine ⟨0, ?_⟩
    unfold lapidarylaw13_IsoBack.f
    rw [if_pos hl]
    rfl
  · obtain ⟨r, h1, h2⟩ := back_ev l (by omega)
    obtain ⟨s, g1, g2⟩ := rback_ev l (by omega)
    have e := both_same h2 g2
    subst e
    have hrl : r.1.length ≤ 1000000 := by
      rcases h2 with ⟨rfl, _⟩ | ⟨_, _, h, _⟩
      · simp
      · omega
    obtain ⟨t, t1, t2⟩ := back_ev r.1 hrl
    have hj : Ev (fun k => lapidarylaw13_IsoBack.j0 k l r.1 r.2 (r.2 != r.2)) true := by
      cases hok : r.2 with
      | false =>
        refine Ev.step (f := fun k => (iso_Back.f k r.1).bind fun _ => some true) (fun k => ?_) (Ev.bind t1 (Ev.now _))
        simp only [lapidarylaw13_IsoBack.j0]
        rfl
      | true =>
        have ht := twice h2 hok t2
        subst ht
        refine Ev.step (f := fun k => (iso_Back.f k r.1).bind fun bt => if bt.2 = true then ((lapidaryref00_SameInts.f k bt.1 l).bind fun t132 => if t132 = true then some true else some false) else some false) (fun k => ?_) (Ev.bind t1 (Ev.congr (f := fun k => (lapidaryref00_SameInts.f k l l).bind fun t132 => if t132 = true then some true else some false) (fun k => rfl) (Ev.bind (ints_same l (by omega)) (Ev.now true))))
        simp only [lapidarylaw13_IsoBack.j0]
        rfl
    refine Ev.rounds (Ev.congr (f := fun k => (iso_Back.f k l).bind fun bt119 => ((lapidaryref13_Back.f k l).bind fun bt123 => ((lapidaryref00_SameInts.f k bt119.1 bt123.1).bind fun t127 => (if t127 = true then (lapidarylaw13_IsoBack.j0 k l bt119.1 bt119.2 (bt119.2 != bt123.2)) else (lapidarylaw13_IsoBack.j0 k l bt119.1 bt119.2 true))))) (fun k => ?_) (Ev.bind h1 (Ev.bind (f := fun k bt123 => ((lapidaryref00_SameInts.f k r.1 bt123.1).bind fun t127 => (if t127 = true then (lapidarylaw13_IsoBack.j0 k l r.1 r.2 (r.2 != bt123.2)) else (lapidarylaw13_IsoBack.j0 k l r.1 r.2 true)))) g1 (Ev.bind (f := fun k t127 => (if t127 = true then (lapidarylaw13_IsoBack.j0 k l r.1 r.2 (r.2 != r.2)) else (lapidarylaw13_IsoBack.j0 k l r.1 r.2 true))) (ints_same r.1 hrl) (Ev.congr (fun k => if_pos rfl) hj)))))
    unfold lapidarylaw13_IsoBack.f
    rw [if_neg hl]
end Go.Proofs.YtbdpfmpbooikiaaDoor.IsoB
