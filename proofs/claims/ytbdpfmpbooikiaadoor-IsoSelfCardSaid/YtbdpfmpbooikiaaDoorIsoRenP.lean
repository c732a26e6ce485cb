import Derived.Test.YtbdpfmpbooikiaaDoorPIsrx5
import Derived.Test.YtbdpfmpbooikiaaDoorPIsrx5r
import Derived.Test.YtbdpfmpbooikiaaDoorPIsrx10
import Derived.Test.YtbdpfmpbooikiaaDoorPIsrx12
import Derived.Test.YtbdpfmpbooikiaaDoorIsoStub
namespace Go.Proofs.YtbdpfmpbooikiaaDoor.IsoB
open Go Go.RowKit Go.Proofs.YtbdpfmpbooikiaaDoor.PIsr Go.Proofs.YtbdpfmpbooikiaaDoorW.PrintWords Go.Proofs.YtbdpfmpbooikiaaDoorW.PrintLast Go.Proofs.YtbdpfmpbooikiaaDoorW.PrintMore
set_option linter.unusedVariables false
set_option linter.unusedSimpArgs false
theorem w64 {x : Int} (h0 : -9223372036854775808 ≤ x) (h1 : x < 9223372036854775808) : wrap64 x = x := by unfold wrap64; omega
theorem sub_len {α : Type} [DecidableEq α] : ∀ {m l : List α}, m.Nodup → (∀ x ∈ m, x ∈ l) → m.length ≤ l.length := by
  intro m
  induction m with
  | nil => intro l _ _; exact Nat.zero_le _
  | cons a m ih =>
    intro l hn hs
    have ha := hs a (List.mem_cons_self ..)
    rw [List.nodup_cons] at hn
    have h1 := ih (l := l.erase a) hn.2 fun x hx => by
      have hne : x ≠ a := fun h => hn.1 (h ▸ hx)
      exact (List.mem_erase_of_ne hne).2 (hs x (List.mem_cons_of_mem _ hx))
    rw [List.length_erase_of_mem ha] at h1
    have := List.length_pos_of_mem ha
    rw [List.length_cons]
    omega
def at_ (l : List Int) (i : Nat) : Int := l.getD i 0
theorem at_eq {l : List Int} {i : Nat} (h : i < l.length) : at_ l i = l[i] := by unfold at_; rw [List.getD_eq_getElem?_getD, List.getElem?_eq_getElem h]; rfl
theorem rd_nat (l : List Int) (i : Nat) : rd l (i : Int) = at_ l i := by unfold rd at_; rw [Int.toNat_natCast]
def Num (l : List Int) : Prop := (∀ i, i < l.length → 0 ≤ at_ l i ∧ at_ l i < l.length) ∧ ∀ i j, i < l.length → j < l.length → at_ l i = at_ l j → i = j
def Onto (l : List Int) : Prop := ∀ v : Nat, v < l.length → ∃ i, i < l.length ∧ at_ l i = v
theorem mem_at {l : List Int} {x : Int} : x ∈ l ↔ ∃ i, i < l.length ∧ at_ l i = x := by
  constructor
  · intro h
    obtain ⟨i, hi, rfl⟩ := List.getElem_of_mem h
    exact ⟨i, hi, at_eq hi⟩
  · rintro ⟨i, hi, rfl⟩
    rw [at_eq hi]
    exact List.getElem_mem hi
def rng (n : Nat) : List Int := (List.range n).map fun i : Nat => (i : Int)
theorem rng_nodup (n : Nat) : (rng n).Nodup := by
  unfold rng
  rw [List.Nodup, List.pairwise_map]
  exact List.nodup_range.imp fun h => by omega
theorem mem_rng {n : Nat} {x : Int} : x ∈ rng n ↔ 0 ≤ x ∧ x < n := by
  unfold rng
  rw [List.mem_map]
  constructor
  · rintro ⟨i, hi, rfl⟩
    have := List.mem_range.1 hi
    omega
  · rintro ⟨h0, h1⟩
    exact ⟨x.toNat, List.mem_range.2 (by omega), by omega⟩
theorem rng_len (n : Nat) : (rng n).length = n := by simp [rng]
theorem nodup_of {l : List Int} (h : ∀ i j, i < l.length → j < l.length → at_ l i = at_ l j → i = j) : l.Nodup := by
  rw [List.nodup_iff_pairwise_ne, List.pairwise_iff_getElem]
  intro i j hi hj hij he
  rw [← at_eq hi, ← at_eq hj] at he
  have := h i j hi hj he
  omega
theorem onto_of_num {l : List Int} (h : Num l) : Onto l := by
  intro v hv
  have hd := nodup_of h.2
  rcases Classical.em ((v : Int) ∈ l) with hm | hm
  · exact mem_at.1 hm
  · exfalso
    have h1 : ((v : Int) :: l).Nodup := List.nodup_cons.2 ⟨hm, hd⟩
    have h2 := sub_len (l := rng l.length) h1 fun x hx => by
      rcases List.mem_cons.1 hx with rfl | hx
      · exact mem_rng.2 (by omega)
      · obtain ⟨i, hi, rfl⟩ := mem_at.1 hx
        exact mem_rng.2 (h.1 i hi)
    rw [List.length_cons, rng_len] at h2
    omega
theorem num_of_onto {l : List Int} (h : Onto l) : Num l := by
  have hkey : ∀ i, i < l.length → (∀ v : Nat, v < l.length → ∃ j, j < l.length ∧ j ≠ i ∧ at_ l j = v) → False := by
    intro i hi hv
    have h1 := sub_len (l := l.eraseIdx i) (rng_nodup l.length) fun x hx => by
      obtain ⟨h0, h1⟩ := mem_rng.1 hx
      obtain ⟨j, hj, hji, he⟩ := hv x.toNat (by omega)
      rw [List.mem_eraseIdx_iff_getElem]
      exact ⟨j, hj, hji, by rw [← at_eq hj, he]; omega⟩
    rw [rng_len, List.length_eraseIdx_of_lt hi] at h1
    omega
  refine ⟨fun i hi => ?_, fun i j hi hj he => ?_⟩
  · rcases Classical.em (0 ≤ at_ l i ∧ at_ l i < l.length) with hr | hr
    · exact hr
    · exfalso
      refine hkey i hi fun v hv => ?_
      obtain ⟨j, hj, he⟩ := h v hv
      exact ⟨j, hj, fun hji => by subst hji; omega, he⟩
  · rcases Classical.em (i = j) with hr | hr
    · exact hr
    · exfalso
      refine hkey i hi fun v hv => ?_
      obtain ⟨k, hk, hke⟩ := h v hv
      rcases Classical.em (k = i) with hki | hki
      · subst hki
        exact ⟨j, hj, fun h => hr h.symm, by rw [← he, hke]⟩
      · exact ⟨k, hk, hki, hke⟩
theorem set_at {l : List Int} {i j : Nat} {x : Int} (hi : i < l.length) : at_ (l.set i x) j = if i = j then x else at_ l j := by
  unfold at_
  rw [List.getD_eq_getElem?_getD, List.getD_eq_getElem?_getD, List.getElem?_set]
  split
  · rename_i h; subst h; first | rfl | (rw [if_pos hi]; rfl)
  · rfl
theorem set_ob {l : List Bool} {i j : Nat} {x : Bool} (hi : i < l.length) : (l.set i x).getD j false = if i = j then x else l.getD j false := by
  rw [List.getD_eq_getElem?_getD, List.getD_eq_getElem?_getD, List.getElem?_set]
  split
  · rename_i h; subst h; first | rfl | (rw [if_pos hi]; rfl)
  · rfl
def Told (l : List Int) (r : List Int × Bool) : Prop := (r = ([], false) ∧ ¬ Num l) ∨ (r.2 = true ∧ Num l ∧ r.1.length = l.length ∧ ∀ j, j < l.length → at_ r.1 (at_ l j).toNat = j)
theorem back_l0 (l : List Int) (hl : l.length ≤ 1000000) : ∀ (d i : Nat) (o : List Int) (s : List Bool), l.length - i = d → i ≤ l.length → o.length = l.length → s.length = l.length →
    (∀ j, j < i → 0 ≤ at_ l j ∧ at_ l j < l.length ∧ at_ o (at_ l j).toNat = j) → (∀ j k, j < i → k < i → at_ l j = at_ l k → j = k) → (∀ v : Nat, v < l.length → (s.getD v false = true ↔ ∃ j, j < i ∧ at_ l j = v)) →
    ∃ r, Ev (fun k => iso_Back.l0 k l o s true l (l.length : Int) (i : Int)) r ∧ Told l r := by
  intro d
  induction d with
  | zero =>
    intro i o s hd hi ho hs h1 h2 h3
    have hil : i = l.length := by omega
    subst hil
    refine ⟨(o, true), Ev.step (f := fun _ => some (o, true)) (fun k => ?_) (Ev.now _), .inr ⟨rfl, ⟨fun j hj => ⟨(h1 j hj).1, (h1 j hj).2.1⟩, fun j k hj hk => h2 j k hj hk⟩, ho, fun j hj => (h1 j hj).2.2⟩⟩
    simp only [iso_Back.l0, if_true]
    rw [if_neg (by omega)]
  | succ d ih =>
    intro i o s hd hi ho hs h1 h2 h3
    have hlt : i < l.length := by omega
    have hbad : ¬ Num l → (∀ k, iso_Back.l0 (k + 1) l o s true l (l.length : Int) (i : Int) = some (([] : List Int), false)) → ∃ r, Ev (fun k => iso_Back.l0 k l o s true l (l.length : Int) (i : Int)) r ∧ Told l r := by
      intro hn hk
      exact ⟨([], false), Ev.step (f := fun _ => some ([], false)) hk (Ev.now _), .inl ⟨rfl, hn⟩⟩
    by_cases g1 : at_ l i < 0
    · refine hbad (fun hn => by have := (hn.1 i hlt).1; omega) fun k => ?_
      simp only [iso_Back.l0]
      rw [if_pos (by omega), if_pos (by omega), if_pos (by omega), rd_nat, if_pos g1]
    · by_cases g2 : at_ l i ≥ (l.length : Int)
      · refine hbad (fun hn => by have := (hn.1 i hlt).2; omega) fun k => ?_
        simp only [iso_Back.l0]
        rw [if_pos (by omega), if_pos (by omega), if_pos (by omega), rd_nat, if_neg g1, if_pos g2]
      · obtain ⟨v, hv⟩ : ∃ v : Nat, at_ l i = v := ⟨(at_ l i).toNat, by omega⟩
        have hvl : v < l.length := by omega
        have hrs : rdOf false s (at_ l i) = s.getD v false := by unfold rdOf; rw [hv, Int.toNat_natCast]
        by_cases g3 : s.getD v false = true
        · obtain ⟨j, hj, hje⟩ := (h3 v hvl).1 g3
          refine hbad (fun hn => by have := hn.2 j i (by omega) hlt (by rw [hje, hv]); omega) fun k => ?_
          simp only [iso_Back.l0]
          rw [if_pos (by omega), if_pos (by omega), if_pos (by omega), rd_nat, if_neg g1, if_neg g2, if_pos (by omega), if_pos (by omega), hrs, if_pos g3]
        · have hnew : ∀ j, j < i → at_ l j ≠ v := fun j hj he => g3 ((h3 v hvl).2 ⟨j, hj, he⟩)
          obtain ⟨r, hr1, hr2⟩ := ih (i + 1) (o.set v (i : Int)) (s.set v true) (by omega) (by omega) (by simp [ho]) (by simp [hs])
            (fun j hj => by
              rcases Nat.lt_or_ge j i with hji | hji
              · obtain ⟨a1, a2, a3⟩ := h1 j hji
                have := hnew j hji
                exact ⟨a1, a2, by rw [set_at (by omega), if_neg (by omega), a3]⟩
              · have : j = i := by omega
                subst this
                exact ⟨by omega, by omega, by rw [hv, Int.toNat_natCast, set_at (by omega), if_pos rfl]⟩)
            (fun j k hj hk he => by
              rcases Nat.lt_or_ge j i with hji | hji
              · rcases Nat.lt_or_ge k i with hki | hki
                · exact h2 j k hji hki he
                · have : k = i := by omega
                  subst this
                  exact absurd (by rw [he, hv]) (hnew j hji)
              · have : j = i := by omega
                subst this
                rcases Nat.lt_or_ge k j with hki | hki
                · exact absurd (by rw [← he, hv]) (hnew k hki)
                · omega)
            (fun u hu => by
              rw [set_ob (by omega)]
              by_cases huv : v = u
              · subst huv
                rw [if_pos rfl]
                exact ⟨fun _ => ⟨i, by omega, hv⟩, fun _ => rfl⟩
              · rw [if_neg huv, h3 u hu]
                constructor
                · rintro ⟨j, hj, he⟩
                  exact ⟨j, by omega, he⟩
                · rintro ⟨j, hj, he⟩
                  refine ⟨j, ?_, he⟩
                  rcases Nat.lt_or_ge j i with hji | hji
                  · exact hji
                  · have : j = i := by omega
                    subst this
                    omega)
          refine ⟨r, Ev.step (fun k => ?_) hr1, hr2⟩
          simp only [iso_Back.l0]
          rw [if_pos (by omega), if_pos (by omega), if_pos (by omega), rd_nat, if_neg g1, if_neg g2, if_pos (by omega), if_pos (by omega), hrs, if_neg g3, if_pos (by omega), hv, Int.toNat_natCast, w64 (by omega) (by omega)]
          rfl
theorem back_ev (l : List Int) (hl : l.length ≤ 1000000) : ∃ r, Ev (fun k => iso_Back.f k l) r ∧ Told l r := by
  obtain ⟨r, h1, h2⟩ := back_l0 l hl l.length 0 (List.replicate l.length 0) (List.replicate l.length false) rfl (Nat.zero_le _) (by simp) (by simp) (fun j hj => by omega) (fun j k hj => by omega)
    (fun v hv => ⟨fun h => by simp [List.getD_eq_getElem?_getD, List.getElem?_replicate, hv] at h, fun ⟨j, hj, _⟩ => by omega⟩)
  refine ⟨r, Ev.congr (fun k => ?_) h1, h2⟩
  unfold iso_Back.f
  rw [if_pos (by omega), Int.toNat_natCast, if_pos (by omega), if_pos (by omega)]
  rfl
theorem rback_l1 (l : List Int) (hl : l.length ≤ 1000000) (o : List Int) (ho : o.length ≤ 1000000) (v : Nat) (hv : v < l.length) (P : List Int × Bool → Prop)
    (hyes : ∀ i : Nat, i < l.length → at_ l i = v → ∃ r, Ev (fun k => lapidaryref13_Back.l0 k l (o ++ [(i : Int)]) ((v + 1 : Nat) : Int)) r ∧ P r) (hno : (∀ i, i < l.length → at_ l i ≠ v) → P ([], false)) :
    ∀ (d i : Nat) (a : Int), l.length - i = d → i ≤ l.length → (a = -1 ∧ ∀ j, j < i → at_ l j ≠ v) ∨ (∃ j : Nat, j < i ∧ a = j ∧ at_ l j = v) →
    ∃ r, Ev (fun k => lapidaryref13_Back.l1 k l o (v : Int) a (i : Int)) r ∧ P r := by
  intro d
  induction d with
  | zero =>
    intro i a hd hi ha
    have hil : i = l.length := by omega
    subst hil
    rcases ha with ⟨rfl, hn⟩ | ⟨j, hj, rfl, he⟩
    · refine ⟨([], false), Ev.step (f := fun _ => some ([], false)) (fun k => ?_) (Ev.now _), hno hn⟩
      simp only [lapidaryref13_Back.l1]
      rw [if_neg (by omega), if_pos (by omega)]
    · obtain ⟨r, h1, h2⟩ := hyes j hj he
      refine ⟨r, Ev.step (fun k => ?_) h1, h2⟩
      simp only [lapidaryref13_Back.l1]
      rw [if_neg (by omega), if_neg (by omega), if_pos (by omega), w64 (by omega) (by omega)]
      rfl
  | succ d ih =>
    intro i a hd hi ha
    have hlt : i < l.length := by clear ha; omega
    have hd1 : l.length - (i + 1) = d := by clear ha; omega
    by_cases he : at_ l i = v
    · obtain ⟨r, h1, h2⟩ := ih (i + 1) (i : Int) hd1 hlt (.inr ⟨i, by omega, rfl, he⟩)
      clear ha ih
      refine ⟨r, Ev.step (fun k => ?_) h1, h2⟩
      simp only [lapidaryref13_Back.l1]
      rw [if_pos (by omega), if_pos (by omega), rd_nat, if_pos he, w64 (by omega) (by omega)]
      rfl
    · obtain ⟨r, h1, h2⟩ := ih (i + 1) a hd1 hlt (by
        rcases ha with ⟨rfl, hn⟩ | ⟨j, hj, rfl, hje⟩
        · refine .inl ⟨rfl, fun j hj => ?_⟩
          rcases Nat.lt_or_ge j i with h | h
          · exact hn j h
          · have : j = i := by omega
            subst this
            exact he
        · exact .inr ⟨j, by omega, rfl, hje⟩)
      clear ha ih
      refine ⟨r, Ev.step (fun k => ?_) h1, h2⟩
      simp only [lapidaryref13_Back.l1]
      rw [if_pos (by omega), if_pos (by omega), rd_nat, if_neg he, w64 (by omega) (by omega)]
      rfl
def RTold (l : List Int) (r : List Int × Bool) : Prop := (r = ([], false) ∧ ¬ Onto l) ∨ (r.2 = true ∧ Onto l ∧ r.1.length = l.length ∧ ∀ v, v < l.length → ∃ i : Nat, i < l.length ∧ at_ r.1 v = i ∧ at_ l i = v)
theorem rback_l0 (l : List Int) (hl : l.length ≤ 1000000) : ∀ (d v : Nat) (o : List Int), l.length - v = d → v ≤ l.length → o.length = v → (∀ u, u < v → ∃ i : Nat, i < l.length ∧ at_ o u = i ∧ at_ l i = u) →
    ∃ r, Ev (fun k => lapidaryref13_Back.l0 k l o (v : Int)) r ∧ RTold l r := by
  intro d
  induction d with
  | zero =>
    intro v o hd hv ho h1
    have hil : v = l.length := by omega
    subst hil
    refine ⟨(o, true), Ev.step (f := fun _ => some (o, true)) (fun k => ?_) (Ev.now _), .inr ⟨rfl, fun u hu => by obtain ⟨i, a, _, c⟩ := h1 u hu; exact ⟨i, a, c⟩, ho, h1⟩⟩
    simp only [lapidaryref13_Back.l0]
    rw [if_neg (by omega)]
  | succ d ih =>
    intro v o hd hv ho h1
    have hlt : v < l.length := by omega
    obtain ⟨r, g1, g2⟩ := rback_l1 l hl o (by omega) v hlt (RTold l) (fun i hi he => ih (v + 1) (o ++ [(i : Int)]) (by omega) (by omega) (by simp [ho]) (fun u hu => by
        rcases Nat.lt_or_ge u v with h | h
        · obtain ⟨j, a, b, c⟩ := h1 u h
          refine ⟨j, a, ?_, c⟩
          unfold at_ at b ⊢
          rw [List.getD_eq_getElem?_getD, List.getElem?_append_left (by omega), ← List.getD_eq_getElem?_getD]
          exact b
        · have : u = v := by omega
          subst this
          refine ⟨i, hi, ?_, he⟩
          unfold at_
          rw [List.getD_eq_getElem?_getD, List.getElem?_append_right (by omega), ho, Nat.sub_self]
          rfl)) (fun hn => .inl ⟨rfl, fun h => by obtain ⟨i, hi, he⟩ := h v hlt; exact hn i hi he⟩) l.length 0 (-1) rfl (Nat.zero_le _) (.inl ⟨rfl, fun j hj => by omega⟩)
    refine ⟨r, Ev.step (fun k => ?_) g1, g2⟩
    simp only [lapidaryref13_Back.l0]
    rw [if_pos (by omega)]
    rfl
theorem rback_ev (l : List Int) (hl : l.length ≤ 1000000) : ∃ r, Ev (fun k => lapidaryref13_Back.f k l) r ∧ RTold l r := rback_l0 l hl l.length 0 [] rfl (Nat.zero_le _) rfl (fun u hu => by omega)
end Go.Proofs.YtbdpfmpbooikiaaDoor.IsoB
namespace Go.Proofs.YtbdpfmpbooikiaaDoor.IsoR
open Go Go.RowKit Go.Proofs.YtbdpfmpbooikiaaDoor.PIsr Go.Proofs.YtbdpfmpbooikiaaDoorW.PrintWords Go.Proofs.YtbdpfmpbooikiaaDoorW.PrintLast Go.Proofs.YtbdpfmpbooikiaaDoorW.PrintMore
open Go.Proofs.YtbdpfmpbooikiaaDoor.IsoB (at_ Num Onto at_eq rd_nat onto_of_num num_of_onto back_ev rback_ev)
open Go.Proofs.YtbdpfmpbooikiaaDoor.MD (renP renT renK renP_len renT_len renT_later)
open Go.Proofs.YtbdpfmpbooikiaaDoor.MM (trT trs)
open Go.Proofs.YtbdpfmpbooikiaaDoor.MR (Plain Single Round good_of cAt TriOk PtOk)
set_option linter.unusedVariables false
set_option linter.unusedSimpArgs false
theorem getD_set' {α : Type} (l : List α) (i j : Nat) (x z : α) (hi : i < l.length) : (l.set i x).getD j z = if i = j then x else l.getD j z := by
  rw [List.getD_eq_getElem?_getD, List.getD_eq_getElem?_getD, List.getElem?_set]
  by_cases h : i = j
  · subst h
    rw [if_pos rfl, if_pos rfl, if_pos hi]
    rfl
  · rw [if_neg h, if_neg h]
theorem getD_at {α : Type} (l : List α) (i : Nat) (z : α) (hi : i < l.length) : l.getD i z = l[i] := by
  rw [List.getD_eq_getElem?_getD, List.getElem?_eq_getElem hi]; rfl
theorem list_eq' {α : Type} (z : α) {a b : List α} (hl : a.length = b.length) (h : ∀ i, i < a.length → a.getD i z = b.getD i z) : a = b := by
  refine List.ext_getElem hl fun i h1 h2 => ?_
  rw [← getD_at a i z h1, ← getD_at b i z h2]
  exact h i h1
def ren (num : List Int) (q : S57) : S57 := ⟨at_ num q.f0.toNat, at_ num q.f1.toNat, at_ num q.f2.toNat⟩
theorem renT_upto (num : List Int) (T : List S57) : ∀ i, i ≤ T.length → ∀ j, j < T.length → (renT num T i).getD j z57 = if j < i then ren num (T.getD j z57) else T.getD j z57 := by
  intro i
  induction i with
  | zero => intro _ j hj; rw [if_neg (by omega)]; rfl
  | succ i ih =>
    intro hi j hj
    rw [renT, getD_set' _ _ _ _ _ (by rw [renT_len]; omega)]
    by_cases e : i = j
    · subst e
      rw [if_pos rfl, if_pos (by omega)]
      rfl
    · rw [if_neg e, ih (by omega) j hj]
      by_cases h : j < i
      · rw [if_pos h, if_pos (by omega)]
      · rw [if_neg h, if_neg (by omega)]
theorem renT_eq (num : List Int) (T : List S57) : renT num T T.length = T.map (ren num) := by
  refine list_eq' z57 (by rw [renT_len, List.length_map]) fun i hi => ?_
  rw [renT_len] at hi
  rw [renT_upto num T _ (Nat.le_refl _) i hi, if_pos hi, getD_at (T.map _) i z57 (by rw [List.length_map]; exact hi), List.getElem_map, getD_at T i z57 hi]
section
variable {num : List Int} (hn : Num num)
include hn
theorem renP_upto {P : List S45} (hl : num.length = P.length) : ∀ i, i ≤ P.length → ∀ v, v < i → (renP num P i).getD (at_ num v).toNat z45 = P.getD v z45 := by
  intro i
  induction i with
  | zero => intro _ v hv; omega
  | succ i ih =>
    intro hi v hv
    have hv1 := hn.1 v (by omega)
    have hi1 := hn.1 i (by omega)
    have hset : (num.getD i 0).toNat < (renP num P i).length := by
      rw [renP_len]
      have : num.getD i 0 = at_ num i := rfl
      rw [this]; omega
    rw [renP, getD_set' _ _ _ _ _ hset]
    by_cases e : v = i
    · subst e
      have : num.getD v 0 = at_ num v := rfl
      rw [this, if_pos rfl]
    · have hne : at_ num i ≠ at_ num v := fun h => e (hn.2 v i (by omega) (by omega) h.symm)
      have : num.getD i 0 = at_ num i := rfl
      rw [this, if_neg (by omega)]
      exact ih (by omega) v (by omega)
theorem renP_at {P : List S45} (hl : num.length = P.length) (v : Nat) (hv : v < P.length) : (renP num P P.length).getD (at_ num v).toNat z45 = P.getD v z45 := renP_upto hn hl P.length (Nat.le_refl _) v hv
def pm (num : List Int) (x : Int) : Int := at_ num x.toNat
omit hn in
theorem pm_def (num : List Int) (x : Int) : pm num x = at_ num x.toNat := rfl
def inn (n : Nat) (x : Int) : Prop := 0 ≤ x ∧ x < n
theorem pm_inj {x y : Int} (hx : inn num.length x) (hy : inn num.length y) (h : pm num x = pm num y) : x = y := by
  unfold inn at hx hy
  have := hn.2 x.toNat y.toNat (by omega) (by omega) h
  omega
theorem pm_iff {x y : Int} (hx : inn num.length x) (hy : inn num.length y) : pm num x = pm num y ↔ x = y := ⟨pm_inj hn hx hy, fun h => by rw [h]⟩
theorem pm_in {x : Int} (hx : inn num.length x) : inn num.length (pm num x) := by
  unfold inn at hx ⊢
  have := hn.1 x.toNat (by omega)
  exact this
theorem pm_onto {v : Int} (hv : inn num.length v) : ∃ u, inn num.length u ∧ pm num u = v := by
  unfold inn at hv
  obtain ⟨i, hi, he⟩ := onto_of_num hn v.toNat (by omega)
  refine ⟨(i : Int), ⟨by omega, by omega⟩, ?_⟩
  rw [pm_def, Int.toNat_natCast, he]; omega
omit hn in
def f3 (num : List Int) (q : Int × Int × Int) : Int × Int × Int := (pm num q.1, pm num q.2.1, pm num q.2.2)
def in3 (n : Nat) (q : Int × Int × Int) : Prop := inn n q.1 ∧ inn n q.2.1 ∧ inn n q.2.2
omit hn in
theorem trs_map (T : List S57) (i : Nat) (hi : i < T.length) : trs (T.map (ren num)) i = f3 num (trs T i) := by
  unfold trs
  rw [getD_at (T.map _) i z57 (by rw [List.length_map]; exact hi), List.getElem_map, getD_at T i z57 hi]
  rfl
omit hn in
theorem edges_map (q : Int × Int × Int) : Fan.edges3 (f3 num q) = (Fan.edges3 q).map fun e => (pm num e.1, pm num e.2) := rfl
omit hn in
theorem edge_in {n : Nat} {q : Int × Int × Int} (h : in3 n q) {e : Int × Int} (he : e ∈ Fan.edges3 q) : inn n e.1 ∧ inn n e.2 := by
  obtain ⟨h1, h2, h3⟩ := h
  simp only [Fan.edges3, List.mem_cons, List.not_mem_nil, or_false] at he
  rcases he with rfl | rfl | rfl
  · exact ⟨h1, h2⟩
  · exact ⟨h2, h3⟩
  · exact ⟨h3, h1⟩
theorem has_map {q : Int × Int × Int} (h : in3 num.length q) {v : Int} (hv : inn num.length v) : Fan.has3 (f3 num q) (pm num v) = Fan.has3 q v := by
  obtain ⟨h1, h2, h3⟩ := h
  rw [Bool.eq_iff_iff]
  simp only [Fan.has3, f3, Bool.or_eq_true, beq_iff_eq, pm_iff hn h1 hv, pm_iff hn h2 hv, pm_iff hn h3 hv]
theorem fr_map {q : Int × Int × Int} (h : in3 num.length q) {v : Int} (hv : inn num.length v) : Fan.frT (f3 num q) (pm num v) = pm num (Fan.frT q v) := by
  obtain ⟨h1, h2, h3⟩ := h
  simp only [Fan.frT, f3, pm_iff hn h1 hv, pm_iff hn h2 hv]
  split
  · rfl
  · split <;> rfl
theorem to_map {q : Int × Int × Int} (h : in3 num.length q) {v : Int} (hv : inn num.length v) : Fan.toT (f3 num q) (pm num v) = pm num (Fan.toT q v) := by
  obtain ⟨h1, h2, h3⟩ := h
  simp only [Fan.toT, f3, pm_iff hn h1 hv, pm_iff hn h2 hv]
  split
  · rfl
  · split <;> rfl
end
theorem in3_of {P : List S45} {T : List S57} (hp : Plain P T) {i : Nat} (hi : i < T.length) : in3 P.length (trs T i) := (hp.2 i hi).1
section
variable {num : List Int} (hn : Num num) {P : List S45} {T : List S57} (hl : num.length = P.length) (hp : Plain P T)
include hn hl hp
theorem plain_map : Plain (renP num P P.length) (T.map (ren num)) := by
  refine ⟨fun v hv => ?_, fun i hi => ?_⟩
  · rw [renP_len] at hv
    obtain ⟨u, hu, he⟩ := pm_onto hn (v := (v : Int)) ⟨by omega, by omega⟩
    unfold inn at hu
    have := renP_at hn hl u.toNat (by omega)
    rw [← pm_def, he, Int.toNat_natCast] at this
    rw [this]
    exact hp.1 u.toNat (by omega)
  · rw [List.length_map] at hi
    obtain ⟨⟨a, b, c⟩, d, e, f⟩ := hp.2 i hi
    rw [getD_at (T.map _) i z57 (by rw [List.length_map]; exact hi), List.getElem_map, ← getD_at T i z57 hi, renP_len]
    rw [← hl] at a b c ⊢
    refine ⟨⟨pm_in hn a, pm_in hn b, pm_in hn c⟩, fun h => d (pm_inj hn a b h), fun h => e (pm_inj hn b c h), fun h => f (pm_inj hn c a h)⟩
theorem single_map (hs : Single T) : Single (T.map (ren num)) := by
  intro i hi j hj e h1 h2
  rw [List.length_map] at hi hj
  rw [trs_map T i hi, edges_map, List.mem_map] at h1
  rw [trs_map T j hj, edges_map, List.mem_map] at h2
  obtain ⟨e1, m1, q1⟩ := h1
  obtain ⟨e2, m2, q2⟩ := h2
  have i1 := edge_in (in3_of hp hi) m1
  have i2 := edge_in (in3_of hp hj) m2
  rw [← hl] at i1 i2
  have hq := q1.trans q2.symm
  injection hq with hq1 hq2
  have e12 : e1 = e2 := Prod.ext (pm_inj hn i1.1 i2.1 hq1) (pm_inj hn i1.2 i2.2 hq2)
  rw [← e12] at m2
  exact hs i hi j hj e1 m1 m2
theorem atV_map {v : Int} (hv : inn num.length v) : Fan.atV (trs (T.map (ren num))) (T.map (ren num)).length (pm num v) = Fan.atV (trs T) T.length v := by
  unfold Fan.atV
  rw [List.length_map]
  refine List.filter_congr fun i hi => ?_
  have hi2 := List.mem_range.1 hi
  rw [trs_map T i hi2]
  have := in3_of hp hi2
  rw [← hl] at this
  exact has_map hn this hv
theorem round_map (hs : Single T) (hr : Round P.length T (good_of hp hs)) : Round (renP num P P.length).length (T.map (ren num)) (good_of (plain_map hn hl hp) (single_map hn hl hp hs)) := by
  intro v' hv'
  rw [renP_len] at hv'
  obtain ⟨u, hu, he⟩ := pm_onto hn (v := (v' : Int)) ⟨by omega, by omega⟩
  have hu2 := hu
  unfold inn at hu2
  obtain ⟨h1, h2⟩ := hr u.toNat (by omega)
  have huu : ((u.toNat : Nat) : Int) = u := by omega
  rw [huu] at h1 h2
  have hat := atV_map hn hl hp hu
  rw [← he]
  refine ⟨by unfold MR.cAt at h1 ⊢; rw [hat]; exact h1, ?_⟩
  intro a ha x hx
  have ha0 : a ∈ Fan.atV (trs T) T.length u := by rw [← hat]; exact ha
  have hx0 : x ∈ Fan.atV (trs T) T.length u := by rw [← hat]; exact hx
  intro S hS hC
  refine h2 a ha0 x hx0 S hS ?_
  intro y hy z hz hSy hadj
  have hy' : y ∈ Fan.atV (trs (T.map (ren num))) (T.map (ren num)).length (pm num u) := by rw [hat]; exact hy
  have hz' : z ∈ Fan.atV (trs (T.map (ren num))) (T.map (ren num)).length (pm num u) := by rw [hat]; exact hz
  refine hC y hy' z hz' hSy ?_
  have hyl := (Fan.mem_atV.1 hy).1
  have hzl := (Fan.mem_atV.1 hz).1
  have iy := in3_of hp hyl
  have iz := in3_of hp hzl
  rw [← hl] at iy iz
  show Fan.toT (trs (T.map (ren num)) y) (pm num u) = Fan.frT (trs (T.map (ren num)) z) (pm num u) ∨ Fan.toT (trs (T.map (ren num)) z) (pm num u) = Fan.frT (trs (T.map (ren num)) y) (pm num u)
  rw [trs_map T y hyl, trs_map T z hzl, to_map hn iy hu, to_map hn iz hu, fr_map hn iy hu, fr_map hn iz hu]
  rcases hadj with h | h
  · exact .inl (congrArg (pm num) h)
  · exact .inr (congrArg (pm num) h)
end
theorem told0 {P : List S45} {T : List S57} {r : Int} (h : MR.Told P T r) : r = 0 → (P.length ≤ 4000 ∧ T.length ≤ 8000) ∧ ∃ (hp : Plain P T) (hs : Single T), Round P.length T (good_of hp hs) := by
  cases h with
  | long _ => intro e; exact absurd e (by decide)
  | arg _ _ => intro e; exact absurd e (by decide)
  | edge _ _ _ => intro e; exact absurd e (by decide)
  | vertex _ _ _ _ => intro e; exact absurd e (by decide)
  | ok h hp hs hr => intro _; exact ⟨h, hp, hs, hr⟩
theorem told_map {P : List S45} {T : List S57} (h : MR.Told P T 0) {num : List Int} (hn : Num num) (hl : num.length = P.length) : MR.Told (renP num P P.length) (T.map (ren num)) 0 := by
  obtain ⟨h1, hp, hs, hr⟩ := told0 h rfl
  exact .ok (by rw [renP_len, List.length_map]; exact h1) (plain_map hn hl hp) (single_map hn hl hp hs) (round_map hn hl hp hs hr)
theorem told_one {P : List S45} {T : List S57} {r : Int} (h : MR.Told P T r) (h0 : MR.Told P T 0) : r = 0 := by
  obtain ⟨h1, hp, hs, hr⟩ := told0 h0 rfl
  cases h with
  | long h => omega
  | arg _ h => exact absurd hp h
  | edge _ _ h => exact absurd hs h
  | vertex _ _ _ h => exact absurd hr h
  | ok _ _ _ _ => rfl
end Go.Proofs.YtbdpfmpbooikiaaDoor.IsoR
namespace Go.Proofs.YtbdpfmpbooikiaaDoor.IsoR
open Go Go.RowKit Go.Proofs.YtbdpfmpbooikiaaDoor.PIsr Go.Proofs.YtbdpfmpbooikiaaDoorW.PrintWords Go.Proofs.YtbdpfmpbooikiaaDoorW.PrintLast Go.Proofs.YtbdpfmpbooikiaaDoorW.PrintMore
open Go.Proofs.YtbdpfmpbooikiaaDoor.IsoB (at_ Num Onto at_eq rd_nat onto_of_num num_of_onto back_ev rback_ev)
open Go.Proofs.YtbdpfmpbooikiaaDoor.MD (renP renT renK renP_len renT_len renT_later)
open Go.Proofs.YtbdpfmpbooikiaaDoor.MM (trT trs)
open Go.Proofs.YtbdpfmpbooikiaaDoor.MR (Plain Single Round good_of cAt TriOk PtOk)
set_option linter.unusedVariables false
set_option linter.unusedSimpArgs false
def yes (P : List S45) (num : List Int) : Prop := Num num ∧ num.length = P.length
open Classical in
noncomputable def RenR (P : List S45) (T : List S57) (num : List Int) (c : Int) : List S45 × List S57 × Int :=
  if c = 0 then (if yes P num then (renP num P P.length, T.map (ren num), 0) else ([], [], 2)) else ([], [], c)
theorem renR_no {P : List S45} {T : List S57} {num : List Int} {c : Int} (h : c ≠ 0) : RenR P T num c = ([], [], c) := if_neg h
theorem renR_bad {P : List S45} {T : List S57} {num : List Int} (h : ¬ yes P num) : RenR P T num 0 = ([], [], 2) := by unfold RenR; rw [if_pos rfl, if_neg h]
theorem renR_yes {P : List S45} {T : List S57} {num : List Int} (h : yes P num) : RenR P T num 0 = (renP num P P.length, T.map (ren num), 0) := by unfold RenR; rw [if_pos rfl, if_pos h]
section
variable {P : List S45} {T : List S57} {num : List Int} {c : Int}
theorem ren_ok (ht : MR.Told P T 0) (hy : yes P num) : renOk P T num := by
  obtain ⟨⟨h1, h2⟩, hp, _, _⟩ := told0 ht rfl
  refine ⟨by omega, by omega, hy.2, fun v hv => ?_, fun q hq => ?_⟩
  · obtain ⟨i, hi, rfl⟩ := IsoB.mem_at.1 hv
    have := hy.1.1 i hi
    rw [hy.2] at this
    exact this
  · obtain ⟨i, hi, rfl⟩ := List.getElem_of_mem hq
    have := (hp.2 i hi).1
    rw [getD_at T i z57 hi] at this
    exact this
theorem ren_ev (hc : Ev (fun k => lapidaryref10_Check.f k P T) c) (ht : MR.Told P T c) (hl : num.length ≤ 1000000) : Ev (fun k => iso_Renamed.f k P T num) (RenR P T num c) := by
  refine Ev.congr (fun k => rfl) (Ev.bind (f := fun k t129 => (if t129 = 0 then ((iso_Back.f k num).bind fun bt130 => (if bt130.2 = true then (if (num.length : Int) = (P.length : Int) then ((iso_renamed.f P T num).bind fun bt134 => (some (bt134.1, bt134.2, (0 : Int)))) else (some (([] : List (S45)), ([] : List (S57)), 2))) else (some (([] : List (S45)), ([] : List (S57)), 2)))) else (some (([] : List (S45)), ([] : List (S57)), t129)))) hc ?_)
  by_cases h0 : c = 0
  · subst h0
    refine Ev.congr (fun k => if_pos rfl) ?_
    obtain ⟨r, h1, h2⟩ := back_ev num hl
    refine Ev.bind (f := fun k bt130 => (if bt130.2 = true then (if (num.length : Int) = (P.length : Int) then ((iso_renamed.f P T num).bind fun bt134 => (some (bt134.1, bt134.2, (0 : Int)))) else (some (([] : List (S45)), ([] : List (S57)), 2))) else (some (([] : List (S45)), ([] : List (S57)), 2)))) h1 ?_
    rcases h2 with ⟨rfl, hn⟩ | ⟨h3, hn, _, _⟩
    · rw [renR_bad (fun h => hn h.1)]
      exact Ev.congr (fun k => if_neg (by decide)) (Ev.now _)
    · refine Ev.congr (fun k => if_pos h3) ?_
      by_cases he : num.length = P.length
      · rw [renR_yes ⟨hn, he⟩, ← renT_eq]
        refine Ev.congr (fun k => ?_) (Ev.now _)
        rw [if_pos (by omega)]
        unfold iso_renamed.f
        rw [if_pos (ren_ok ht ⟨hn, he⟩)]
        rfl
      · rw [renR_bad (fun h => he h.2)]
        exact Ev.congr (fun k => if_neg (by omega)) (Ev.now _)
  · rw [renR_no h0]
    exact Ev.congr (fun k => if_neg h0) (Ev.now _)
theorem take_next {α : Type} (z : α) (l : List α) (i : Nat) (hi : i < l.length) : l.take (i + 1) = l.take i ++ [l.getD i z] := by
  rw [getD_at l i z hi, List.take_add_one, List.getElem?_eq_getElem hi]; rfl
theorem rr1 (hn : Num num) (hp : Plain P T) (hl : num.length = P.length) (hT : T.length ≤ 8000) (P' : List S45) : ∀ d i : Nat, i + d = T.length → Ev (fun k => lapidaryref13_Renamed.l1 k num (i : Int) P T P' ((T.map (ren num)).take i)) (P', T.map (ren num), 0) := by
  intro d
  induction d with
  | zero =>
    intro i hi
    have e : i = T.length := by omega
    subst e
    refine Ev.step (f := fun _ => some (P', T.map (ren num), 0)) (fun k => ?_) (Ev.now _)
    rw [lapidaryref13_Renamed.l1, if_neg (by omega), List.take_of_length_le (by rw [List.length_map]; exact Nat.le_refl _)]
  | succ d ih =>
    intro i hi
    obtain ⟨⟨a, b, c⟩, _⟩ := hp.2 i (by omega)
    refine Ev.step (fun k => ?_) (ih (i + 1) (by omega))
    have hlen : ((T.map (ren num)).take i).length < 5864062014805 := by rw [List.length_take, List.length_map]; omega
    rw [lapidaryref13_Renamed.l1, if_pos (by omega), if_pos (by omega), MR.rd57, if_pos a.1, if_pos (by omega), if_pos b.1, if_pos (by omega), if_pos c.1, if_pos (by omega), if_pos hlen, MR.w1 (by omega), take_next z57 _ i (by rw [List.length_map]; omega), getD_at (T.map _) i z57 (by rw [List.length_map]; omega), List.getElem_map, ← getD_at T i z57 (by omega)]
    rfl
theorem rr0 (hn : Num num) (hp : Plain P T) (hl : num.length = P.length) (hP : P.length ≤ 4000) (hT : T.length ≤ 8000) (back : List Int) (hb : back.length = num.length) (hb2 : ∀ v, v < num.length → ∃ i : Nat, i < num.length ∧ at_ back v = i ∧ at_ num i = v) : ∀ d i : Nat, i + d = P.length → Ev (fun k => lapidaryref13_Renamed.l0 k num back (i : Int) P T ((renP num P P.length).take i)) (renP num P P.length, T.map (ren num), 0) := by
  intro d
  induction d with
  | zero =>
    intro i hi
    have e : i = P.length := by omega
    subst e
    refine Ev.step (fun k => ?_) (rr1 hn hp hl hT (renP num P P.length) T.length 0 (by omega))
    rw [lapidaryref13_Renamed.l0, if_neg (by omega), List.take_of_length_le (by rw [renP_len]; exact Nat.le_refl _)]
    rfl
  | succ d ih =>
    intro i hi
    obtain ⟨u, hu, e1, e2⟩ := hb2 i (by omega)
    have hP2 := renP_at hn hl u (by omega)
    rw [e2, Int.toNat_natCast] at hP2
    refine Ev.step (fun k => ?_) (ih (i + 1) (by omega))
    have hlen : ((renP num P P.length).take i).length < 5864062014805 := by rw [List.length_take, renP_len]; omega
    rw [lapidaryref13_Renamed.l0, if_pos (by omega), if_pos (by omega), rd_nat, e1, if_pos (by omega), if_pos (by omega), if_pos hlen, MR.w1 (by omega), take_next z45 _ i (by rw [renP_len]; omega), hP2, MR.rd45]
theorem rref_ev (hc : Ev (fun k => lapidaryref10_Check.f k P T) c) (ht : MR.Told P T c) (hl : num.length ≤ 1000000) : Ev (fun k => lapidaryref13_Renamed.f k P T num) (RenR P T num c) := by
  refine Ev.congr (fun k => rfl) (Ev.bind (f := fun k t197 => (if t197 = 0 then ((lapidaryref13_Back.f k num).bind fun bt198 => (if bt198.2 = true then (lapidaryref13_Renamed.j0 k num bt198.1 ((num.length : Int) != (P.length : Int)) P T) else (lapidaryref13_Renamed.j0 k num bt198.1 true P T))) else (some (([] : List (S45)), ([] : List (S57)), t197)))) hc ?_)
  have hbad : ∀ b : List Int, Ev (fun k => lapidaryref13_Renamed.j0 k num b true P T) (([] : List S45), ([] : List S57), (2 : Int)) := fun b => Ev.step (f := fun _ => some (([] : List S45), ([] : List S57), (2 : Int))) (fun k => by rw [lapidaryref13_Renamed.j0, if_pos rfl]) (Ev.now _)
  by_cases h0 : c = 0
  · subst h0
    refine Ev.congr (fun k => if_pos rfl) ?_
    obtain ⟨r, h1, h2⟩ := rback_ev num hl
    refine Ev.bind (f := fun k bt198 => (if bt198.2 = true then (lapidaryref13_Renamed.j0 k num bt198.1 ((num.length : Int) != (P.length : Int)) P T) else (lapidaryref13_Renamed.j0 k num bt198.1 true P T))) h1 ?_
    rcases h2 with ⟨rfl, hn⟩ | ⟨h3, hn, h4, h5⟩
    · rw [renR_bad (fun h => hn (onto_of_num h.1))]
      exact Ev.congr (fun k => if_neg (by decide)) (hbad _)
    · refine Ev.congr (fun k => if_pos h3) ?_
      have hn2 := num_of_onto hn
      by_cases he : num.length = P.length
      · rw [renR_yes ⟨hn2, he⟩]
        obtain ⟨⟨l1, l2⟩, hp, _, _⟩ := told0 ht rfl
        rw [show ((num.length : Int) != (P.length : Int)) = false by rw [bne_eq_false_iff_eq]; omega]
        refine Ev.step (fun k => ?_) (rr0 hn2 hp he l1 l2 r.1 h4 h5 P.length 0 (by omega))
        rw [lapidaryref13_Renamed.j0, if_neg (by decide)]
        rfl
      · rw [renR_bad (fun h => he h.2), show ((num.length : Int) != (P.length : Int)) = true by rw [bne_iff_ne]; omega]
        exact hbad _
  · rw [renR_no h0]
    exact Ev.congr (fun k => if_neg h0) (Ev.now _)
end
end Go.Proofs.YtbdpfmpbooikiaaDoor.IsoR
