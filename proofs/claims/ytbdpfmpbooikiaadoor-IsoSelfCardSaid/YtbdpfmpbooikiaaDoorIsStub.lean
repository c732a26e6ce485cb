import Derived.Test.YtbdpfmpbooikiaaDoorIsWalk
import Derived.Test.YtbdpfmpbooikiaaDoorPIsrx11
namespace Go.Proofs.YtbdpfmpbooikiaaDoor.IT
open Go Go.RowKit Go.Proofs.YtbdpfmpbooikiaaDoor.PIsr Go.Proofs.YtbdpfmpbooikiaaDoorW.PrintWords Go.Proofs.YtbdpfmpbooikiaaDoorW.PrintLast Go.Proofs.YtbdpfmpbooikiaaDoorW.PrintMore
open Go.Proofs.YtbdpfmpbooikiaaDoor.IsoR (RenR renR_no renR_bad renR_yes yes ren ren_ev rref_ev getD_at told0 told_one told_map)
open Go.Proofs.YtbdpfmpbooikiaaDoor.MD (renP renP_len)
open Go.Proofs.YtbdpfmpbooikiaaDoor.MR (EvB EvP rd45 rd57 w1 has_ev)
set_option linter.unusedVariables false
set_option linter.unusedSimpArgs false
def IsQ (P : List S45) (T : List S57) (Q : List S45) (U : List S57) (num : List Int) : Prop :=
  MR.Told P T 0 ∧ yes P num ∧ MR.Told Q U 0 ∧ P.length = Q.length ∧ T.length = U.length ∧ (∀ v, v < P.length → (renP num P P.length).getD v z45 = Q.getD v z45) ∧ ∀ u ∈ U, least u ∈ (T.map (ren num)).map least
theorem isP_Q {P : List S45} {T : List S57} {Q : List S45} {U : List S57} {num : List Int} {c d : Int} (hc : MR.Told P T c) (hd : MR.Told Q U d) : IsP P T Q U num c d ↔ IsQ P T Q U num := by
  constructor
  · rintro ⟨rfl, h2, rfl, h4⟩
    exact ⟨hc, h2, hd, h4⟩
  · rintro ⟨h1, h2, h3, h4⟩
    exact ⟨told_one hc h1, h2, told_one hd h3, h4⟩
theorem renR_nil {P : List S45} {T : List S57} {num : List Int} {c : Int} (h : (RenR P T num c).2.2 ≠ 0) : (RenR P T num c).2.1 = [] := by
  by_cases h0 : c = 0
  · subst h0
    by_cases hy : yes P num
    · exact absurd ((renR3 T).2 ⟨rfl, hy⟩) h
    · rw [renR_bad hy]
  · rw [renR_no h0]
theorem wf_of {P : List S45} {T : List S57} (h : MR.Told P T 0) : ∀ q ∈ T, wfT q := by
  obtain ⟨⟨h1, h2⟩, hp, _, _⟩ := told0 h rfl
  intro q hq
  obtain ⟨i, hi, rfl⟩ := List.getElem_of_mem hq
  obtain ⟨a, b, c⟩ := (hp.2 i hi).1
  rw [getD_at T i z57 hi] at a b c
  exact ⟨WalkArith.wf_i64 (by omega), WalkArith.wf_i64 (by omega), WalkArith.wf_i64 (by omega)⟩
theorem EvB.bind {α : Type} {g : Nat → Option α} {v : α} {f : Nat → α → Option Bool} {R : Prop} (hg : Ev g v) (h : EvB (fun k => f k v) R) : EvB (fun k => (g k).bind fun t => f k t) R := by
  obtain ⟨b, h1, h2⟩ := h
  exact ⟨b, Ev.bind (f := f) hg h1, h2⟩
end Go.Proofs.YtbdpfmpbooikiaaDoor.IT
namespace Go.Proofs.YtbdpfmpbooikiaaDoor.PIsr
open Go Go.RowKit Go.Proofs.YtbdpfmpbooikiaaDoorW.PrintWords Go.Proofs.YtbdpfmpbooikiaaDoorW.PrintLast Go.Proofs.YtbdpfmpbooikiaaDoorW.PrintMore
set_option linter.unusedVariables false
open Classical in
noncomputable def iso_Is.f (l0_0 : List (S45)) (l0_1 : List (S57)) (l1_0 : List (S45)) (l1_1 : List (S57)) (l2 : List Int) : Option (Bool) := if l2.length ≤ 1000000 then some (decide (IT.IsQ l0_0 l0_1 l1_0 l1_1 l2)) else none
theorem iso_Is.calls (A0_0 : Option Addr) (c0_0 : Nat) (l0_0 : List (S45)) (A0_1 : Option Addr) (c0_1 : Nat) (l0_1 : List (S57)) (A1_0 : Option Addr) (c1_0 : Nat) (l1_0 : List (S45)) (A1_1 : Option Addr) (c1_1 : Nat) (l1_1 : List (S57)) (A2 : Option Addr) (c2 : Nat) (l2 : List Int) (r : Bool) (w : World)
    (hr0_0 : Kd.C k45 w A0_0 l0_0.length l0_0) (hc0_0 : l0_0.length ≤ c0_0) (hr0_1 : Kd.C k57 w A0_1 l0_1.length l0_1) (hc0_1 : l0_1.length ≤ c0_1) (hr1_0 : Kd.C k45 w A1_0 l1_0.length l1_0) (hc1_0 : l1_0.length ≤ c1_0) (hr1_1 : Kd.C k57 w A1_1 l1_1.length l1_1) (hc1_1 : l1_1.length ≤ c1_1) (hr2 : Kd.C (Kd.int .i64) w A2 l2.length l2) (hc2 : l2.length ≤ c2)
    (hG : Kd.C k57 w (some ⟨0, 0, none⟩) 1 [⟨1, 2, 0⟩]) (h : iso_Is.f l0_0 l0_1 l1_0 l1_1 l2 = some r) :
    Calls Tryd.prog 15 #[.agg #[.slice A0_0 l0_0.length c0_0, .slice A0_1 l0_1.length c0_1], .agg #[.slice A1_0 l1_0.length c1_0, .slice A1_1 l1_1.length c1_1], .slice A2 l2.length c2] w fun e w' => e = .returned (.bool r) ∧ Below w.heap.size w w' := by
  unfold iso_Is.f at h
  by_cases hn : l2.length ≤ 1000000
  · rw [if_pos hn] at h
    injection h with h
    obtain ⟨c, hc, htc⟩ := MR.check_ev l0_0 l0_1
    obtain ⟨d, hd, htd⟩ := MR.check_ev l1_0 l1_1
    obtain ⟨k, hk⟩ := (IsoR.ren_ev hc htc hn).rounds
    refine IT.is15 l0_0 l0_1 l1_0 l1_1 l2 c d k hk htd ?_ ?_ (fun h0 => by subst h0; exact IT.wf_of htd) r ?_ (fun h0 => by subst h0; obtain ⟨_, _, hs, _⟩ := IsoR.told0 htd rfl; exact hs) A0_0 A0_1 A1_0 A1_1 A2 c0_0 c0_1 c1_0 c1_1 c2 w hr0_0 hc0_0 hr0_1 hc0_1 hr1_0 hc1_0 hr1_1 hc1_1 hr2 hc2 hG
    · intro h0
      subst h0
      obtain ⟨⟨h1, h2⟩, _, _, _⟩ := IsoR.told0 htc rfl
      exact ⟨by omega, by omega⟩
    · intro q hq
      by_cases h0 : (IsoR.RenR l0_0 l0_1 l2 c).2.2 = 0
      · obtain ⟨rfl, hy⟩ := (IT.renR3 l0_1).1 h0
        rw [IsoR.renR_yes hy] at hq
        exact IT.wf_of (IsoR.told_map htc hy.1 hy.2) q hq
      · rw [IT.renR_nil h0] at hq
        cases hq
    · rw [IT.isP_Q htc htd, ← h]
      simp
  · rw [if_neg hn] at h
    cases h
end Go.Proofs.YtbdpfmpbooikiaaDoor.PIsr
