import Derived.OpenShut
import Derived.Test.YtbdpfmpbooikiaaDoorIsoRenP
import Derived.Test.YtbdpfmpbooikiaaDoorPIsrx16
import Derived.Test.YtbdpfmpbooikiaaDoorIsoRows
namespace Go.Proofs.YtbdpfmpbooikiaaDoor.IsoS
open Go Go.RowKit Go.Proofs.YtbdpfmpbooikiaaDoor.PIsr Go.Proofs.YtbdpfmpbooikiaaDoorW.PrintWords Go.Proofs.YtbdpfmpbooikiaaDoorW.PrintLast Go.Proofs.YtbdpfmpbooikiaaDoorW.PrintMore
open Go.Proofs.YtbdpfmpbooikiaaDoor.IsoR Go.Proofs.YtbdpfmpbooikiaaDoor.IT
open Go.Proofs.YtbdpfmpbooikiaaDoor.IsoB (at_ Num at_eq rng rng_len num_of_onto w64)
open Go.Proofs.YtbdpfmpbooikiaaDoor.MD (renP renP_len)
open Go.Proofs.YtbdpfmpbooikiaaDoor.MR (rd45)
set_option linter.unusedVariables false
set_option linter.unusedSimpArgs false
theorem rng_at {n i : Nat} (h : i < n) : at_ (rng n) i = (i : Int) := by
  rw [at_eq (by rw [rng_len]; exact h)]
  unfold rng
  simp
theorem rng_num (n : Nat) : Num (rng n) := by
  refine ⟨fun i hi => ?_, fun i j hi hj h => ?_⟩
  · rw [rng_len] at hi ⊢
    rw [rng_at hi]
    omega
  · rw [rng_len] at hi hj
    rw [rng_at hi, rng_at hj] at h
    omega
theorem rng_snoc (n : Nat) : rng n ++ [(n : Int)] = rng (n + 1) := by
  unfold rng
  rw [List.range_succ, List.map_append]
  rfl
theorem ren_id {P : List S45} {T : List S57} (ht : MR.Told P T 0) : T.map (ren (rng P.length)) = T := by
  obtain ⟨_, hp, _, _⟩ := told0 ht rfl
  refine (List.map_congr_left fun q hq => ?_).trans (List.map_id T)
  obtain ⟨i, hi, rfl⟩ := List.getElem_of_mem hq
  obtain ⟨a, b, c⟩ := (hp.2 i hi).1
  rw [getD_at T i z57 hi] at a b c
  show (⟨at_ (rng P.length) T[i].f0.toNat, at_ (rng P.length) T[i].f1.toNat, at_ (rng P.length) T[i].f2.toNat⟩ : S57) = T[i]
  rw [rng_at (by omega), rng_at (by omega), rng_at (by omega)]
  generalize T[i] = q at *
  cases q
  simp only [S57.mk.injEq]
  dsimp only at *
  omega
theorem renP_id {P : List S45} {v : Nat} (hv : v < P.length) : (renP (rng P.length) P P.length).getD v z45 = P.getD v z45 := by
  have h := renP_at (rng_num P.length) (P := P) (rng_len _) v hv
  rw [rng_at hv, Int.toNat_natCast] at h
  exact h
theorem isf {P : List S45} {T : List S57} {Q : List S45} {U : List S57} {num : List Int} {b : Bool} (hn : num.length ≤ 1000000) (h : b = true ↔ IsQ P T Q U num) : iso_Is.f P T Q U num = some b := by
  unfold iso_Is.f
  rw [if_pos hn]
  congr 1
  rw [Bool.eq_iff_iff, h]
  simp
theorem is_self {P : List S45} {T : List S57} (ht : MR.Told P T 0) (hP : P.length ≤ 4000) : iso_Is.f P T P T (rng P.length) = some true := by
  refine isf (by rw [rng_len]; omega) ⟨fun _ => ?_, fun _ => rfl⟩
  refine ⟨ht, ⟨rng_num _, rng_len _⟩, ht, rfl, rfl, fun v hv => renP_id hv, fun u hu => ?_⟩
  rw [ren_id ht]
  exact List.mem_map.2 ⟨u, hu, rfl⟩
theorem is_other {P Q : List S45} {T U : List S57} (hP : P.length ≤ 4000) {k : Nat} (hk : k < P.length) (h : P.getD k z45 ≠ Q.getD k z45) : iso_Is.f P T Q U (rng P.length) = some false := by
  refine isf (by rw [rng_len]; omega) ⟨fun h => (nomatch h), fun hq => ?_⟩
  have := hq.2.2.2.2.2.1 k hk
  rw [renP_id hk] at this
  exact absurd this h
theorem is_less {P : List S45} {T : List S57} (hP : P.length ≤ 4000) (hT : 0 < T.length) : iso_Is.f P T P (T.drop 1) (rng P.length) = some false := by
  refine isf (by rw [rng_len]; omega) ⟨fun h => (nomatch h), fun hq => ?_⟩
  have := hq.2.2.2.2.1
  rw [List.length_drop] at this
  omega
theorem known_true : ((lapidarylaw13_known.f).bind fun t => some t) = some true := rfl
theorem eqb {p q : S45} : ((p.f0 == q.f0) && ((p.f1 == q.f1) && (p.f2 == q.f2))) = true ↔ p = q := by
  cases p; cases q
  simp
theorem eqb_no {p q : S45} (h : p ≠ q) : ((p.f0 == q.f0) && ((p.f1 == q.f1) && (p.f2 == q.f2))) = false := Bool.eq_false_iff.2 (fun hh => h (eqb.1 hh))
theorem half (x : Int) (h0 : -2147483648 ≤ x) (h1 : x ≤ 2147483647) : -2147483648 ≤ Int.tdiv x 2 ∧ Int.tdiv x 2 ≤ 2147483647 ∧ (Int.tdiv x 2 = x → x = 0) := by
  by_cases h : 0 ≤ x
  · rw [Int.tdiv_eq_ediv_of_nonneg h]
    omega
  · obtain ⟨m, rfl⟩ : ∃ m : Int, x = -m := ⟨-x, by omega⟩
    rw [Int.neg_tdiv, Int.tdiv_eq_ediv_of_nonneg (by omega)]
    omega
theorem rd_set {P : List S45} {K : Int} (h0 : 0 ≤ K) (h1 : K < P.length) (x : S45) : rd_T45 (P.set K.toNat x) K = x := by
  unfold rd_T45
  rw [getD_set' P _ _ _ _ (by omega), if_pos rfl]
set_option maxRecDepth 100000 in
theorem self_end {P : List S45} {T : List S57} (a : Int) (ha0 : 0 ≤ a) (ha1 : a < 256) (ht : MR.Told P T 0) (k : Nat) : lapidarylaw13_IsoSelf.l0 (k + 1) a (rng P.length) (P.length : Int) P T = some true := by
  obtain ⟨⟨hP, hTl⟩, hp, _, _⟩ := told0 ht rfl
  rw [lapidarylaw13_IsoSelf.l0, if_neg (by omega), is_self ht hP, Option.bind_some, if_pos rfl]
  by_cases hT : T.length = 0
  · rw [if_pos (by omega)]
    exact known_true
  have hPp : 0 < P.length := by
    obtain ⟨⟨x, _⟩, _⟩ := (hp.2 0 (by omega)).1
    omega
  rw [if_neg (by omega), if_pos (by simp; omega), List.nil_append, Option.bind_some]
  have hK0 : 0 ≤ Int.tmod (wrap64 a) (P.length : Int) := by rw [w64 (by omega) (by omega)]; exact Int.tmod_nonneg _ ha0
  have hK1 : Int.tmod (wrap64 a) (P.length : Int) < (P.length : Int) := by rw [w64 (by omega) (by omega), Int.tmod_eq_emod_of_nonneg ha0]; exact Int.emod_lt_of_pos _ (by omega)
  generalize Int.tmod (wrap64 a) (P.length : Int) = K at *
  rw [if_neg (by omega), if_pos hK0, if_pos hK1, Option.bind_some, if_pos hK1]
  rw [rd_set hK0 hK1]
  have hKn : K.toNat < P.length := by omega
  have hpk : rd_T45 P K = P.getD K.toNat z45 := rfl
  have hco := (hp.1 K.toNat hKn).2.2
  rw [← hpk] at hco
  generalize hq : rd_T45 P K = q at *
  have hless := is_less (P := P) (T := T) hP (by omega)
  have hend : (if 1 ≤ (T.length : Int) then ((iso_Is.f P T P (T.drop 1) (rng P.length)).bind fun t215 => (if t215 = true then (some false) else ((lapidarylaw13_known.f).bind fun t216 => (some t216)))) else (none)) = some true := by
    rw [if_pos (by omega), hless, Option.bind_some, if_neg (by decide)]
    exact known_true
  by_cases he : (⟨q.f0, q.f1, wrap64 (Int.tdiv q.f2 2)⟩ : S45) = q
  · have h0 : q.f2 = 0 := by
      have h1 : wrap64 (Int.tdiv q.f2 2) = q.f2 := congrArg S45.f2 he
      obtain ⟨c1, c2⟩ := hco
      obtain ⟨d1, d2, d3⟩ := half q.f2 c1 c2
      rw [w64 (by omega) (by omega)] at h1
      exact d3 h1
    rw [if_pos (eqb.2 he), Option.bind_some]
    have hlen : K < ((P.set K.toNat (⟨q.f0, q.f1, wrap64 (Int.tdiv q.f2 2)⟩ : S45)).length : Int) := by rw [List.length_set]; exact hK1
    rw [rd_set hK0 hlen]
    have hne : (⟨q.f0, q.f1, 1⟩ : S45) ≠ q := fun h => by have := congrArg S45.f2 h; dsimp only at this; omega
    rw [is_other hP hKn (Q := (P.set K.toNat (⟨q.f0, q.f1, wrap64 (Int.tdiv q.f2 2)⟩ : S45)).set K.toNat ⟨q.f0, q.f1, 1⟩) (by
      rw [getD_set' _ _ _ _ _ (by rw [List.length_set]; exact hKn), if_pos rfl, ← hpk]
      exact fun h => hne h.symm), Option.bind_some]
    rw [if_pos (by rw [show (((q.f0 == q.f0) && ((q.f1 == q.f1) && ((1 : Int) == q.f2)))) = false by rw [h0]; simp]; rfl)]
    exact hend
  · rw [if_neg (fun hh => he (eqb.1 hh))]
    rw [is_other hP hKn (Q := P.set K.toNat (⟨q.f0, q.f1, wrap64 (Int.tdiv q.f2 2)⟩ : S45)) (by
      rw [getD_set' _ _ _ _ _ hKn, if_pos rfl, ← hpk]
      exact fun h => he h.symm), Option.bind_some]
    rw [if_pos (by rw [eqb_no he]; rfl)]
    exact hend
theorem self_l0 {P : List S45} {T : List S57} (a : Int) (ha0 : 0 ≤ a) (ha1 : a < 256) (ht : MR.Told P T 0) : ∀ e i : Nat, i + e = P.length → Ev (fun k => lapidarylaw13_IsoSelf.l0 k a (rng i) (i : Int) P T) true := by
  obtain ⟨⟨hP, hTl⟩, hp, _, _⟩ := told0 ht rfl
  intro e
  induction e with
  | zero =>
    intro i hi
    obtain rfl : i = P.length := by omega
    exact Ev.step (f := fun _ => some true) (fun k => self_end a ha0 ha1 ht k) (Ev.now _)
  | succ e ih =>
    intro i hi
    refine Ev.step (f := fun k => lapidarylaw13_IsoSelf.l0 k a (rng (i + 1)) ((i + 1 : Nat) : Int) P T) (fun k => ?_) (ih (i + 1) (by omega))
    rw [lapidarylaw13_IsoSelf.l0, if_pos (by omega), if_pos (by rw [rng_len]; omega), rng_snoc, MR.w1 (by omega)]
theorem isoSelf (P : List S45) (T : List S57) (a : Int) (ha0 : 0 ≤ a) (ha1 : a < 256) : ∃ k, lapidarylaw13_IsoSelf.f k P T a = some true := by
  have hlong : Ev (fun k => lapidarylaw13_IsoSelf.j0 k a true P T) true := Ev.step (f := fun _ => some true) (fun k => by rw [lapidarylaw13_IsoSelf.j0, if_pos rfl]; rfl) (Ev.now _)
  by_cases g1 : (P.length : Int) > 40
  · refine Ev.rounds (Ev.congr (fun k => ?_) hlong)
    unfold lapidarylaw13_IsoSelf.f lapidarylaw13_long.f
    rw [if_pos g1, Option.bind_some, if_pos rfl]
  by_cases g2 : (T.length : Int) > 60
  · refine Ev.rounds (Ev.congr (fun k => ?_) hlong)
    unfold lapidarylaw13_IsoSelf.f lapidarylaw13_long.f
    rw [if_neg g1, Option.bind_some, decide_eq_true g2, if_pos rfl]
  obtain ⟨c, hc, ht⟩ := MR.check_ev P T
  have hend : Ev (fun k => lapidarylaw13_IsoSelf.j0 k a (c != 0) P T) true := by
    by_cases h0 : c = 0
    · subst h0
      have h1 := self_l0 a ha0 ha1 ht P.length 0 (by omega)
      exact Ev.step (f := fun k => lapidarylaw13_IsoSelf.l0 k a ([] : List Int) 0 P T) (fun k => by rw [lapidarylaw13_IsoSelf.j0, if_neg (by decide)]) h1
    · rw [show (c != 0) = true from bne_iff_ne.2 h0]
      exact hlong
  refine Ev.rounds (Ev.congr (fun k => ?_) (Ev.bind (f := fun k t193 => lapidarylaw13_IsoSelf.j0 k a (t193 != 0) P T) hc hend))
  unfold lapidarylaw13_IsoSelf.f lapidarylaw13_long.f
  rw [if_neg g1, Option.bind_some, decide_eq_false g2, if_neg (by decide)]
end Go.Proofs.YtbdpfmpbooikiaaDoor.IsoS
namespace Go.Proofs.YtbdpfmpbooikiaaDoor.IsoW
open Go Go.RowKit Go.Proofs.YtbdpfmpbooikiaaDoor.PIsr Go.Proofs.YtbdpfmpbooikiaaDoorW.PrintWords
set_option linter.unusedVariables false
theorem isoSelf_walk (W : World) (z : List S45 × List S57) (cs : Array Value) (hK : k25.K W z cs.toList) (hg : Rgood25 z) (a : Int) (hw : (Lit.int .u8 a).wf = true)
    (hG : Kd.C k57 W (some ⟨0, 0, none⟩) 1 [⟨1, 2, 0⟩]) : Calls Tryd.prog 6 #[.agg cs, .int .u8 a] W fun e W' => e = .returned (.bool true) ∧ Below W.heap.size W W' := by
  obtain ⟨A0, c0, A1, c1, rfl, h0, h1, C0, C1⟩ := mesh_open hK
  have hab : 0 ≤ a ∧ a < 256 := by have := bounds_u8 hw; omega
  obtain ⟨k, hk⟩ := IsoS.isoSelf z.1 z.2 a hab.1 hab.2
  exact lapidarylaw13_IsoSelf.calls k A0 c0 z.1 A1 c1 z.2 a true W C0 h0 C1 h1 hG rfl hk
end Go.Proofs.YtbdpfmpbooikiaaDoor.IsoW
