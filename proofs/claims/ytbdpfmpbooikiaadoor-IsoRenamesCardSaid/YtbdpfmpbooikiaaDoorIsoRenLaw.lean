import Derived.Test.YtbdpfmpbooikiaaDoorIsoRenP
import Derived.Test.YtbdpfmpbooikiaaDoorPIsrx14
import Derived.Test.YtbdpfmpbooikiaaDoorIsoRows
namespace Go.Proofs.YtbdpfmpbooikiaaDoor.IsoR
open Go Go.RowKit Go.Proofs.YtbdpfmpbooikiaaDoor.PIsr Go.Proofs.YtbdpfmpbooikiaaDoorW.PrintWords Go.Proofs.YtbdpfmpbooikiaaDoorW.PrintLast Go.Proofs.YtbdpfmpbooikiaaDoorW.PrintMore
open Go.Proofs.YtbdpfmpbooikiaaDoor.IsoB (at_ Num Onto at_eq rd_nat onto_of_num num_of_onto back_ev rback_ev)
open Go.Proofs.YtbdpfmpbooikiaaDoor.MD (renP renT renK renP_len renT_len renT_later)
set_option linter.unusedVariables false
set_option linter.unusedSimpArgs false
theorem back_num {num back : List Int} (hn : Num num) (hb : back.length = num.length) (h : ∀ j, j < num.length → at_ back (at_ num j).toNat = j) : Num back := by
  refine num_of_onto fun v hv => ?_
  rw [hb] at hv ⊢
  have := hn.1 v hv
  exact ⟨(at_ num v).toNat, by omega, h v hv⟩
theorem ren_back {P : List S45} {T : List S57} {num back : List Int} (ht : MR.Told P T 0) (hy : yes P num) (hb : back.length = num.length) (h : ∀ j, j < num.length → at_ back (at_ num j).toNat = j) :
    RenR (renP num P P.length) (T.map (ren num)) back 0 = (P, T, 0) := by
  have hnb := back_num hy.1 hb h
  obtain ⟨⟨l1, l2⟩, hp, _, _⟩ := told0 ht rfl
  rw [renR_yes ⟨hnb, by rw [renP_len, hb, hy.2]⟩]
  have e1 : renP back (renP num P P.length) (renP num P P.length).length = P := by
    refine list_eq' z45 (by rw [renP_len, renP_len]) fun i hi => ?_
    rw [renP_len, renP_len] at hi
    have hi2 : i < num.length := by rw [hy.2]; exact hi
    have hni := hy.1.1 i hi2
    have hq := renP_at hnb (P := renP num P P.length) (by rw [renP_len, hb, hy.2]) (at_ num i).toNat (by rw [renP_len, ← hy.2]; omega)
    rw [h i hi2, Int.toNat_natCast, renP_at hy.1 hy.2 i hi] at hq
    exact hq
  have e2 : (T.map (ren num)).map (ren back) = T := by
    rw [List.map_map]
    refine (List.map_congr_left fun q hq => ?_).trans (List.map_id T)
    obtain ⟨i, hi, rfl⟩ := List.getElem_of_mem hq
    have ho := (hp.2 i hi).1
    rw [getD_at T i z57 hi] at ho
    obtain ⟨a, b, c⟩ := ho
    have hh : ∀ x : Int, 0 ≤ x ∧ x < P.length → at_ back (at_ num x.toNat).toNat = x := by
      intro x hx
      have := h x.toNat (by rw [hy.2]; omega)
      omega
    show (⟨at_ back (at_ num T[i].f0.toNat).toNat, at_ back (at_ num T[i].f1.toNat).toNat, at_ back (at_ num T[i].f2.toNat).toNat⟩ : S57) = T[i]
    rw [hh _ a, hh _ b, hh _ c]
  rw [e1, e2]
theorem isoRenames (P : List S45) (T : List S57) (num : List Int) : ∃ k, lapidarylaw13_IsoRenames.f k P T num = some true := by
  have hlong : Ev (fun k => lapidarylaw13_IsoRenames.j0 k num true P T) true := Ev.step (f := fun _ => some true) (fun k => by rw [lapidarylaw13_IsoRenames.j0, if_pos rfl]; rfl) (Ev.now _)
  by_cases g1 : (P.length : Int) > 40
  · refine Ev.rounds (Ev.congr (fun k => ?_) hlong)
    unfold lapidarylaw13_IsoRenames.f lapidarylaw13_long.f
    rw [if_pos g1, Option.bind_some, if_pos rfl]
  by_cases g2 : (T.length : Int) > 60
  · refine Ev.rounds (Ev.congr (fun k => ?_) hlong)
    unfold lapidarylaw13_IsoRenames.f lapidarylaw13_long.f
    rw [if_neg g1, Option.bind_some, decide_eq_true g2, if_pos rfl]
  by_cases g3 : (num.length : Int) > 60
  · refine Ev.rounds (Ev.congr (fun k => ?_) hlong)
    unfold lapidarylaw13_IsoRenames.f lapidarylaw13_long.f
    rw [if_neg g1, Option.bind_some, decide_eq_false g2, if_neg (by decide), decide_eq_true g3]
  have hnum : num.length ≤ 1000000 := by omega
  obtain ⟨c, hc, ht⟩ := MR.check_ev P T
  have hx := ren_ev hc ht hnum
  have hy := rref_ev hc ht hnum
  have hlen : (RenR P T num c).1.length ≤ 1000000 ∧ (RenR P T num c).2.1.length ≤ 1000000 := by
    by_cases h0 : c = 0
    · subst h0
      by_cases hyes : yes P num
      · rw [renR_yes hyes]
        exact ⟨by rw [renP_len]; omega, by rw [List.length_map]; omega⟩
      · rw [renR_bad hyes]; exact ⟨by simp, by simp⟩
    · rw [renR_no h0]; exact ⟨by simp, by simp⟩
  have hs := same_ev _ _ hlen.1 hlen.2
  have hj1 : Ev (fun k => lapidarylaw13_IsoRenames.j1 k num (RenR P T num c).2.2 ((RenR P T num c).2.2 != (RenR P T num c).2.2) P T (RenR P T num c).1 (RenR P T num c).2.1) true := by
    rw [show ((RenR P T num c).2.2 != (RenR P T num c).2.2) = false by simp]
    have hzero : ∀ e : Int, e ≠ 0 → Ev (fun k => lapidarylaw13_IsoRenames.j1 k num e false P T ([] : List S45) ([] : List S57)) true := by
      intro e he
      exact Ev.step (f := fun _ => some true) (fun k => by rw [lapidarylaw13_IsoRenames.j1, if_neg (by decide), if_neg he, if_pos (by show wrap64 0 = 0; unfold wrap64; rfl)]; rfl) (Ev.now _)
    by_cases h0 : c = 0
    · subst h0
      by_cases hyes : yes P num
      · rw [renR_yes hyes]
        obtain ⟨r, b1, b2⟩ := back_ev num hnum
        rcases b2 with ⟨_, hn⟩ | ⟨b3, _, b4, b5⟩
        · exact absurd hyes.1 hn
        · have ht2 := told_map ht hyes.1 hyes.2
          obtain ⟨c2, hc2, htc2⟩ := MR.check_ev (renP num P P.length) (T.map (ren num))
          have hc0 : c2 = 0 := told_one htc2 ht2
          subst hc0
          have hz := ren_ev hc2 ht2 (num := r.1) (by omega)
          rw [ren_back ht hyes b4 b5] at hz
          refine Ev.step (f := fun k => (iso_Back.f k num).bind fun bt287 => ((iso_Renamed.f k (renP num P P.length) (T.map (ren num)) bt287.1).bind fun bt291 => (if bt287.2 = true then (if bt291.2.2 = 0 then ((lapidaryref10_Same.f k bt291.1 bt291.2.1 P T).bind fun t299 => (if t299 = true then ((lapidarylaw13_known.f).bind fun t300 => (some t300)) else (some false))) else (some false)) else (some false)))) (fun k => ?_) (Ev.bind (f := fun k bt287 => ((iso_Renamed.f k (renP num P P.length) (T.map (ren num)) bt287.1).bind fun bt291 => (if bt287.2 = true then (if bt291.2.2 = 0 then ((lapidaryref10_Same.f k bt291.1 bt291.2.1 P T).bind fun t299 => (if t299 = true then ((lapidarylaw13_known.f).bind fun t300 => (some t300)) else (some false))) else (some false)) else (some false)))) b1 (Ev.bind (f := fun k bt291 => (if r.2 = true then (if bt291.2.2 = 0 then ((lapidaryref10_Same.f k bt291.1 bt291.2.1 P T).bind fun t299 => (if t299 = true then ((lapidarylaw13_known.f).bind fun t300 => (some t300)) else (some false))) else (some false)) else (some false))) hz (Ev.congr (f := fun k => (lapidaryref10_Same.f k P T P T).bind fun t299 => (if t299 = true then ((lapidarylaw13_known.f).bind fun t300 => (some t300)) else (some false))) (fun k => by rw [if_pos b3, if_pos rfl]) (Ev.bind (f := fun _ t299 => (if t299 = true then ((lapidarylaw13_known.f).bind fun t300 => (some t300)) else (some false))) (same_ev P T (by omega) (by omega)) (Ev.now _)))))
          rw [lapidarylaw13_IsoRenames.j1, if_neg (by decide), if_pos rfl]
      · rw [renR_bad hyes]; exact hzero 2 (by decide)
    · rw [renR_no h0]; exact hzero c h0
  refine Ev.rounds (Ev.congr (fun k => ?_) (Ev.step (f := fun k => (iso_Renamed.f k P T num).bind fun bt269 => ((lapidaryref13_Renamed.f k P T num).bind fun bt277 => ((lapidaryref10_Same.f k bt269.1 bt269.2.1 bt277.1 bt277.2.1).bind fun t285 => (if t285 = true then (lapidarylaw13_IsoRenames.j1 k num bt269.2.2 (bt269.2.2 != bt277.2.2) P T bt269.1 bt269.2.1) else (lapidarylaw13_IsoRenames.j1 k num bt269.2.2 true P T bt269.1 bt269.2.1))))) (g := fun k => lapidarylaw13_IsoRenames.j0 k num false P T) (fun k => ?_) (Ev.bind (f := fun k bt269 => ((lapidaryref13_Renamed.f k P T num).bind fun bt277 => ((lapidaryref10_Same.f k bt269.1 bt269.2.1 bt277.1 bt277.2.1).bind fun t285 => (if t285 = true then (lapidarylaw13_IsoRenames.j1 k num bt269.2.2 (bt269.2.2 != bt277.2.2) P T bt269.1 bt269.2.1) else (lapidarylaw13_IsoRenames.j1 k num bt269.2.2 true P T bt269.1 bt269.2.1))))) hx (Ev.bind (f := fun k bt277 => ((lapidaryref10_Same.f k (RenR P T num c).1 (RenR P T num c).2.1 bt277.1 bt277.2.1).bind fun t285 => (if t285 = true then (lapidarylaw13_IsoRenames.j1 k num (RenR P T num c).2.2 ((RenR P T num c).2.2 != bt277.2.2) P T (RenR P T num c).1 (RenR P T num c).2.1) else (lapidarylaw13_IsoRenames.j1 k num (RenR P T num c).2.2 true P T (RenR P T num c).1 (RenR P T num c).2.1)))) hy (Ev.bind (f := fun k t285 => (if t285 = true then (lapidarylaw13_IsoRenames.j1 k num (RenR P T num c).2.2 ((RenR P T num c).2.2 != (RenR P T num c).2.2) P T (RenR P T num c).1 (RenR P T num c).2.1) else (lapidarylaw13_IsoRenames.j1 k num (RenR P T num c).2.2 true P T (RenR P T num c).1 (RenR P T num c).2.1))) hs (Ev.congr (fun k => if_pos rfl) hj1))))))
  · unfold lapidarylaw13_IsoRenames.f lapidarylaw13_long.f
    rw [if_neg g1, Option.bind_some, decide_eq_false g2, if_neg (by decide), decide_eq_false g3]
  · rw [lapidarylaw13_IsoRenames.j0, if_neg (by decide)]
end Go.Proofs.YtbdpfmpbooikiaaDoor.IsoR
namespace Go.Proofs.YtbdpfmpbooikiaaDoor.IsoW
open Go Go.RowKit Go.Proofs.YtbdpfmpbooikiaaDoor.PIsr Go.Proofs.YtbdpfmpbooikiaaDoorW.PrintWords
set_option linter.unusedVariables false
theorem isoRenames_walk (W : World) (z : List S45 × List S57) (cs : Array Value) (hK : k25.K W z cs.toList) (hg : Rgood25 z) (A : Option Addr) (l : List Int) (c : Nat) (hr : Kd.C (Kd.int .i64) W A l.length l) (hc : l.length ≤ c) (hg2 : l.length * Tryd.prog.bytesOf 3 ≤ reachBytes ∧ ∀ x ∈ l, (Lit.int .i64 x).wf = true)
    (hG : Kd.C k57 W (some ⟨0, 0, none⟩) 1 [⟨1, 2, 0⟩]) : Calls Tryd.prog 5 #[.agg cs, .slice A l.length c] W fun e W' => e = .returned (.bool true) ∧ Below W.heap.size W W' := by
  obtain ⟨A0, c0, A1, c1, rfl, h0, h1, C0, C1⟩ := mesh_open hK
  obtain ⟨k, hk⟩ := IsoR.isoRenames z.1 z.2 l
  exact lapidarylaw13_IsoRenames.calls k A0 c0 z.1 A1 c1 z.2 A c l true W C0 h0 C1 h1 hr hc hG hk
end Go.Proofs.YtbdpfmpbooikiaaDoor.IsoW
