import Derived.Test.YtbdpfmpbooikiaaDoorIsoRenP
import Derived.Test.YtbdpfmpbooikiaaDoorPIsrx13
import Derived.Test.YtbdpfmpbooikiaaDoorIsoRows
namespace Go.Proofs.YtbdpfmpbooikiaaDoor.IsoR
open Go Go.RowKit Go.Proofs.YtbdpfmpbooikiaaDoor.PIsr Go.Proofs.YtbdpfmpbooikiaaDoorW.PrintWords Go.Proofs.YtbdpfmpbooikiaaDoorW.PrintLast Go.Proofs.YtbdpfmpbooikiaaDoorW.PrintMore
open Go.Proofs.YtbdpfmpbooikiaaDoor.MD (renP renT renK renP_len renT_len renT_later)
set_option linter.unusedVariables false
set_option linter.unusedSimpArgs false
theorem isoIs (P : List S45) (T : List S57) (Q : List S45) (U : List S57) (num : List Int) : ∃ k, lapidarylaw13_IsoIs.f k P T Q U num = some true := by
  have hlong : Ev (fun k => lapidarylaw13_IsoIs.j0 k num true P T Q U) true := Ev.step (f := fun _ => some true) (fun k => by rw [lapidarylaw13_IsoIs.j0, if_pos rfl]; rfl) (Ev.now _)
  by_cases g1 : (P.length : Int) > 40
  · refine Ev.rounds (Ev.congr (fun k => ?_) hlong)
    unfold lapidarylaw13_IsoIs.f lapidarylaw13_long.f
    rw [if_pos g1, Option.bind_some, if_pos rfl]
  by_cases g2 : (T.length : Int) > 60
  · refine Ev.rounds (Ev.congr (fun k => ?_) hlong)
    unfold lapidarylaw13_IsoIs.f lapidarylaw13_long.f
    rw [if_neg g1, Option.bind_some, decide_eq_true g2, if_pos rfl]
  by_cases g4 : (Q.length : Int) > 40
  · refine Ev.rounds (Ev.congr (fun k => ?_) hlong)
    unfold lapidarylaw13_IsoIs.f lapidarylaw13_long.f
    rw [if_neg g1, Option.bind_some, decide_eq_false g2, if_neg (by decide), if_pos g4, Option.bind_some, if_pos rfl]
  by_cases g5 : (U.length : Int) > 60
  · refine Ev.rounds (Ev.congr (fun k => ?_) hlong)
    unfold lapidarylaw13_IsoIs.f lapidarylaw13_long.f
    rw [if_neg g1, Option.bind_some, decide_eq_false g2, if_neg (by decide), if_neg g4, Option.bind_some, decide_eq_true g5, if_pos rfl]
  by_cases g3 : (num.length : Int) > 60
  · refine Ev.rounds (Ev.congr (fun k => ?_) hlong)
    unfold lapidarylaw13_IsoIs.f lapidarylaw13_long.f
    rw [if_neg g1, Option.bind_some, decide_eq_false g2, if_neg (by decide), if_neg g4, Option.bind_some, decide_eq_false g5, if_neg (by decide), decide_eq_true g3]
  have hnum : num.length ≤ 1000000 := by omega
  obtain ⟨c, hc, ht⟩ := MR.check_ev P T
  have hx := ren_ev hc ht hnum
  have hy := rref_ev hc ht hnum
  obtain ⟨b, hb, hbq⟩ := IT.ref_is P T Q U num hnum
  have hi : iso_Is.f P T Q U num = some b := by
    unfold iso_Is.f
    rw [if_pos hnum]
    congr 1
    rw [Bool.eq_iff_iff, hbq]
    simp
  have hlen : (RenR P T num c).1.length ≤ 1000000 ∧ (RenR P T num c).2.1.length ≤ 1000000 := by
    by_cases h0 : c = 0
    · subst h0
      by_cases hyes : yes P num
      · rw [renR_yes hyes]
        exact ⟨by rw [renP_len]; omega, by rw [List.length_map]; omega⟩
      · rw [renR_bad hyes]; exact ⟨by simp, by simp⟩
    · rw [renR_no h0]; exact ⟨by simp, by simp⟩
  have hs := same_ev _ _ hlen.1 hlen.2
  generalize RenR P T num c = R at *
  have hend : Ev (fun _ : Nat => (if R.2.2 = R.2.2 then ((lapidarylaw13_known.f).bind fun t265 => (some t265)) else (some false))) true := Ev.congr (fun k => if_pos rfl) known_ev
  have h5 : Ev (fun k => (lapidaryref10_Same.f k R.1 R.2.1 R.1 R.2.1).bind fun t264 => (if t264 = true then (if R.2.2 = R.2.2 then ((lapidarylaw13_known.f).bind fun t265 => (some t265)) else (some false)) else (some false))) true :=
    Ev.bind (f := fun k t264 => (if t264 = true then (if R.2.2 = R.2.2 then ((lapidarylaw13_known.f).bind fun t265 => (some t265)) else (some false)) else (some false))) hs (Ev.congr (fun k => if_pos rfl) hend)
  have h4 : Ev (fun k => (lapidaryref13_Is.f k P T Q U num).bind fun t263 => (if (b == t263) = true then ((lapidaryref10_Same.f k R.1 R.2.1 R.1 R.2.1).bind fun t264 => (if t264 = true then (if R.2.2 = R.2.2 then ((lapidarylaw13_known.f).bind fun t265 => (some t265)) else (some false)) else (some false))) else (some false))) true :=
    Ev.bind (f := fun k t263 => (if (b == t263) = true then ((lapidaryref10_Same.f k R.1 R.2.1 R.1 R.2.1).bind fun t264 => (if t264 = true then (if R.2.2 = R.2.2 then ((lapidarylaw13_known.f).bind fun t265 => (some t265)) else (some false)) else (some false))) else (some false))) hb (Ev.congr (fun k => if_pos (beq_self_eq_true b)) h5)
  refine Ev.rounds (Ev.congr (fun k => ?_) (Ev.step (f := fun k => (iso_Renamed.f k P T num).bind fun bt246 => ((lapidaryref13_Renamed.f k P T num).bind fun bt254 => ((some b).bind fun t262 => ((lapidaryref13_Is.f k P T Q U num).bind fun t263 => (if (t262 == t263) = true then ((lapidaryref10_Same.f k bt246.1 bt246.2.1 bt254.1 bt254.2.1).bind fun t264 => (if t264 = true then (if bt246.2.2 = bt254.2.2 then ((lapidarylaw13_known.f).bind fun t265 => (some t265)) else (some false)) else (some false))) else (some false)))))) (g := fun k => lapidarylaw13_IsoIs.j0 k num false P T Q U) (fun k => by rw [lapidarylaw13_IsoIs.j0, if_neg (by decide), hi]) (Ev.bind (f := fun k (bt246 : List S45 × List S57 × Int) => ((lapidaryref13_Renamed.f k P T num).bind fun bt254 => ((some b).bind fun t262 => ((lapidaryref13_Is.f k P T Q U num).bind fun t263 => (if (t262 == t263) = true then ((lapidaryref10_Same.f k bt246.1 bt246.2.1 bt254.1 bt254.2.1).bind fun t264 => (if t264 = true then (if bt246.2.2 = bt254.2.2 then ((lapidarylaw13_known.f).bind fun t265 => (some t265)) else (some false)) else (some false))) else (some false)))))) hx (Ev.bind (f := fun k (bt254 : List S45 × List S57 × Int) => ((some b).bind fun t262 => ((lapidaryref13_Is.f k P T Q U num).bind fun t263 => (if (t262 == t263) = true then ((lapidaryref10_Same.f k R.1 R.2.1 bt254.1 bt254.2.1).bind fun t264 => (if t264 = true then (if R.2.2 = bt254.2.2 then ((lapidarylaw13_known.f).bind fun t265 => (some t265)) else (some false)) else (some false))) else (some false))))) hy (Ev.congr (fun k => Option.bind_some _ _) h4)))))
  unfold lapidarylaw13_IsoIs.f lapidarylaw13_long.f
  rw [if_neg g1, Option.bind_some, decide_eq_false g2, if_neg (by decide), if_neg g4, Option.bind_some, decide_eq_false g5, if_neg (by decide), decide_eq_false g3]
end Go.Proofs.YtbdpfmpbooikiaaDoor.IsoR
namespace Go.Proofs.YtbdpfmpbooikiaaDoor.IsoW
open Go Go.RowKit Go.Proofs.YtbdpfmpbooikiaaDoor.PIsr Go.Proofs.YtbdpfmpbooikiaaDoorW.PrintWords
set_option linter.unusedVariables false
theorem isoIs_walk (W : World) (z : List S45 × List S57) (cs : Array Value) (hK : k25.K W z cs.toList) (hg : Rgood25 z) (z2 : List S45 × List S57) (cs2 : Array Value) (hK2 : k25.K W z2 cs2.toList) (hg4 : Rgood25 z2) (A : Option Addr) (l : List Int) (c : Nat) (hr : Kd.C (Kd.int .i64) W A l.length l) (hc : l.length ≤ c) (hg2 : l.length * Tryd.prog.bytesOf 3 ≤ reachBytes ∧ ∀ x ∈ l, (Lit.int .i64 x).wf = true)
    (hG : Kd.C k57 W (some ⟨0, 0, none⟩) 1 [⟨1, 2, 0⟩]) : Calls Tryd.prog 3 #[.agg cs, .agg cs2, .slice A l.length c] W fun e W' => e = .returned (.bool true) ∧ Below W.heap.size W W' := by
  obtain ⟨A0, c0, A1, c1, rfl, h0, h1, C0, C1⟩ := mesh_open hK
  obtain ⟨B0, d0, B1, d1, rfl, i0, i1, D0, D1⟩ := mesh_open hK2
  obtain ⟨k, hk⟩ := IsoR.isoIs z.1 z.2 z2.1 z2.2 l
  exact lapidarylaw13_IsoIs.calls k A0 c0 z.1 A1 c1 z.2 B0 d0 z2.1 B1 d1 z2.2 A c l true W C0 h0 C1 h1 D0 i0 D1 i1 hr hc hG rfl hk
end Go.Proofs.YtbdpfmpbooikiaaDoor.IsoW
