import Derived.Test.YtbdpfmpbooikiaaDoorIsoRenP
import Derived.Test.YtbdpfmpbooikiaaDoorPIsrx15
import Derived.Test.YtbdpfmpbooikiaaDoorIsoRows
namespace Go.Proofs.YtbdpfmpbooikiaaDoor.IsoR
open Go Go.RowKit Go.Proofs.YtbdpfmpbooikiaaDoor.PIsr Go.Proofs.YtbdpfmpbooikiaaDoorW.PrintWords Go.Proofs.YtbdpfmpbooikiaaDoorW.PrintLast Go.Proofs.YtbdpfmpbooikiaaDoorW.PrintMore
open Go.Proofs.YtbdpfmpbooikiaaDoor.IsoB (at_ Num Onto at_eq rd_nat onto_of_num num_of_onto back_ev rback_ev)
open Go.Proofs.YtbdpfmpbooikiaaDoor.MD (renP renT renK renP_len renT_len renT_later)
set_option linter.unusedVariables false
set_option linter.unusedSimpArgs false
theorem renR_zero {P : List S45} {T : List S57} {num : List Int} {c : Int} (h : (RenR P T num c).2.2 = 0) : c = 0 ∧ yes P num := by
  by_cases h0 : c = 0
  · subst h0
    by_cases hy : yes P num
    · exact ⟨rfl, hy⟩
    · rw [renR_bad hy] at h
      exact absurd h (by decide)
  · rw [renR_no h0] at h
    exact absurd h h0
theorem renR_or (P : List S45) (T : List S57) (num : List Int) (c : Int) : (RenR P T num c).2.2 = 0 ∨ (RenR P T num c).1 = [] := by
  by_cases h0 : c = 0
  · subst h0
    by_cases hy : yes P num
    · rw [renR_yes hy]; exact .inl rfl
    · rw [renR_bad hy]; exact .inr rfl
  · rw [renR_no h0]; exact .inr rfl
theorem j1_true (a b : List Int) (e f : Int) (P : List S45) (T : List S57) (X : List S45) (XT : List S57) (Y : List S45) (YT : List S57) (h1 : e = 0 ∨ X = []) (h2 : f = 0 ∨ Y = []) : Ev (fun k => lapidarylaw13_IsoTwice.j1 k a b e f true P T X XT Y YT) true := by
  refine Ev.step (f := fun _ => some true) (fun k => ?_) (Ev.now _)
  have hk : ((lapidarylaw13_known.f).bind fun t => (some t)) = some true := rfl
  have hy : f ≠ 0 → (Y.length : Int) = 0 := fun h => by rcases h2 with h2 | h2; exact absurd h2 h; rw [h2]; rfl
  have hx : e ≠ 0 → (X.length : Int) = 0 := fun h => by rcases h1 with h1 | h1; exact absurd h1 h; rw [h1]; rfl
  rw [lapidarylaw13_IsoTwice.j1, if_pos rfl, hk]
  by_cases h3 : e = 0
  · rw [if_pos h3]
    by_cases h4 : f = 0
    · rw [if_pos h4]
    · rw [if_neg h4, if_pos (hy h4)]
  · rw [if_neg h3, if_pos (hx h3)]
    by_cases h4 : f = 0
    · rw [if_pos h4]
    · rw [if_neg h4, if_pos (hy h4)]
def comp (a b : List Int) : List Int := a.map fun x => at_ b x.toNat
theorem comp_at {a b : List Int} {i : Nat} (h : i < a.length) : at_ (comp a b) i = at_ b (at_ a i).toNat := by
  rw [at_eq (by unfold comp; rw [List.length_map]; exact h), at_eq h]
  unfold comp
  rw [List.getElem_map]
theorem comp_len (a b : List Int) : (comp a b).length = a.length := by unfold comp; rw [List.length_map]
theorem comp_num {a b : List Int} (ha : Num a) (hb : Num b) (hl : a.length = b.length) : Num (comp a b) := by
  refine ⟨fun i hi => ?_, fun i j hi hj h => ?_⟩
  · rw [comp_len] at hi ⊢
    have h1 := ha.1 i hi
    have h2 := hb.1 (at_ a i).toNat (by omega)
    rw [comp_at hi]
    omega
  · rw [comp_len] at hi hj
    rw [comp_at hi, comp_at hj] at h
    have h1 := ha.1 i hi
    have h2 := ha.1 j hj
    have := hb.2 _ _ (by omega) (by omega) h
    exact ha.2 i j hi hj (by omega)
theorem comp_points {a b : List Int} (ha : Num a) (hb : Num b) {P : List S45} (hla : a.length = P.length) (hlb : b.length = P.length) : renP b (renP a P P.length) (renP a P P.length).length = renP (comp a b) P P.length := by
  have hc := comp_num ha hb (by omega)
  have hlc : (comp a b).length = P.length := by rw [comp_len, hla]
  refine list_eq' z45 (by rw [renP_len, renP_len, renP_len]) fun v hv => ?_
  rw [renP_len, renP_len] at hv
  obtain ⟨u, hu, he⟩ := onto_of_num hc v (by omega)
  have h1 := renP_at hc hlc u (by omega)
  rw [comp_len] at hu
  rw [he, Int.toNat_natCast] at h1
  rw [h1]
  have h2 := ha.1 u hu
  have h3 := renP_at hb (P := renP a P P.length) (by rw [renP_len, hlb]) (at_ a u).toNat (by rw [renP_len]; omega)
  rw [comp_at hu] at he
  rw [he, Int.toNat_natCast, renP_at ha hla u (by omega)] at h3
  exact h3
theorem comp_tris {a b : List Int} {P : List S45} {T : List S57} (hp : MR.Plain P T) (hla : a.length = P.length) : (T.map (ren a)).map (ren b) = T.map (ren (comp a b)) := by
  rw [List.map_map]
  refine List.map_congr_left fun q hq => ?_
  obtain ⟨i, hi, rfl⟩ := List.getElem_of_mem hq
  have ho := (hp.2 i hi).1
  rw [getD_at T i z57 hi] at ho
  obtain ⟨x, y, z⟩ := ho
  show (⟨at_ b (at_ a T[i].f0.toNat).toNat, at_ b (at_ a T[i].f1.toNat).toNat, at_ b (at_ a T[i].f2.toNat).toNat⟩ : S57) = ⟨at_ (comp a b) T[i].f0.toNat, at_ (comp a b) T[i].f1.toNat, at_ (comp a b) T[i].f2.toNat⟩
  rw [comp_at (by omega), comp_at (by omega), comp_at (by omega)]
theorem tl0 {a b : List Int} (ha : Num a) (hl : a.length = b.length) (hlen : a.length ≤ 60) (P Y : List S45) (T YT : List S57) (r : Bool) (hend : Ev (fun k => (iso_Renamed.f k P T (comp a b)).bind fun bt329 => ((iso_Back.f k (comp a b)).bind fun bt337 => ((lapidaryref13_Back.f k (comp a b)).bind fun bt341 => (if bt329.2.2 = 0 then ((lapidaryref10_Same.f k Y YT bt329.1 bt329.2.1).bind fun t345 => (if t345 = true then ((lapidaryref00_SameInts.f k bt337.1 bt341.1).bind fun t346 => (if t346 = true then ((lapidarylaw13_known.f).bind fun t347 => (some t347)) else (some false))) else (some false))) else (some false))))) r) :
    ∀ d i : Nat, i + d = a.length → Ev (fun k => lapidarylaw13_IsoTwice.l0 k a b ((comp a b).take i) (i : Int) P T Y YT) r := by
  intro d
  induction d with
  | zero =>
    intro i hi
    have e : i = a.length := by omega
    subst e
    refine Ev.step (fun k => ?_) hend
    rw [lapidarylaw13_IsoTwice.l0, if_neg (by omega), List.take_of_length_le (by rw [comp_len]; exact Nat.le_refl _)]
  | succ d ih =>
    intro i hi
    have h1 := ha.1 i (by omega)
    have hq : ((comp a b).take i).length < 17592186044416 := by rw [List.length_take, comp_len]; omega
    refine Ev.step (fun k => ?_) (ih (i + 1) (by omega))
    have hr : rd b (at_ a i) = at_ b (at_ a i).toNat := rfl
    rw [lapidarylaw13_IsoTwice.l0, if_pos (by omega), if_pos (by omega), rd_nat, if_pos h1.1, if_pos (by omega), if_pos hq, MR.w1 (by omega), take_next 0 (comp a b) i (by rw [comp_len]; omega), hr, ← comp_at (b := b) (show i < a.length by omega)]
    rfl
theorem isoTwice (P : List S45) (T : List S57) (a b : List Int) : ∃ k, lapidarylaw13_IsoTwice.f k P T a b = some true := by
  have hlong : Ev (fun k => lapidarylaw13_IsoTwice.j0 k a b true P T) true := Ev.step (f := fun _ => some true) (fun k => by rw [lapidarylaw13_IsoTwice.j0, if_pos rfl]; rfl) (Ev.now _)
  by_cases g1 : (P.length : Int) > 40
  · refine Ev.rounds (Ev.congr (fun k => ?_) hlong)
    unfold lapidarylaw13_IsoTwice.f lapidarylaw13_long.f
    rw [if_pos g1, Option.bind_some, if_pos rfl]
  by_cases g2 : (T.length : Int) > 60
  · refine Ev.rounds (Ev.congr (fun k => ?_) hlong)
    unfold lapidarylaw13_IsoTwice.f lapidarylaw13_long.f
    rw [if_neg g1, Option.bind_some, decide_eq_true g2, if_pos rfl]
  by_cases g3 : (a.length : Int) > 60
  · refine Ev.rounds (Ev.congr (fun k => ?_) hlong)
    unfold lapidarylaw13_IsoTwice.f lapidarylaw13_long.f
    rw [if_neg g1, Option.bind_some, decide_eq_false g2, if_neg (by decide), if_pos g3]
  by_cases g4 : (b.length : Int) > 60
  · refine Ev.rounds (Ev.congr (fun k => ?_) hlong)
    unfold lapidarylaw13_IsoTwice.f lapidarylaw13_long.f
    rw [if_neg g1, Option.bind_some, decide_eq_false g2, if_neg (by decide), if_neg g3, decide_eq_true g4]
  obtain ⟨c1, hc1, ht1⟩ := MR.check_ev P T
  have hX := ren_ev hc1 ht1 (num := a) (by omega)
  obtain ⟨c2, hc2, ht2⟩ := MR.check_ev (RenR P T a c1).1 (RenR P T a c1).2.1
  have hY := ren_ev hc2 ht2 (num := b) (by omega)
  have hX0 := renR_or P T a c1
  have hY0 := renR_or (RenR P T a c1).1 (RenR P T a c1).2.1 b c2
  have hX2 := renR_zero (P := P) (T := T) (num := a) (c := c1)
  have hY2 := renR_zero (P := (RenR P T a c1).1) (T := (RenR P T a c1).2.1) (num := b) (c := c2)
  have hmain : ∀ X Y : List S45 × List S57 × Int, RenR P T a c1 = X → RenR X.1 X.2.1 b c2 = Y → X.2.2 = 0 → Y.2.2 = 0 → Ev (fun k => lapidarylaw13_IsoTwice.j1 k a b X.2.2 Y.2.2 ((a.length : Int) != (b.length : Int)) P T X.1 X.2.1 Y.1 Y.2.1) true := by
    intro X Y eX eY hx hy
    rw [eX] at hX2 hY2
    rw [eY] at hY2
    obtain ⟨rfl, hya⟩ := hX2 hx
    obtain ⟨rfl, hyb⟩ := hY2 hy
    rw [renR_yes hya] at eX
    subst eX
    rw [renR_yes hyb] at eY
    subst eY
    have hlb : b.length = P.length := by have := hyb.2; rwa [renP_len] at this
    have hlab : a.length = b.length := by rw [hya.2, hlb]
    obtain ⟨⟨l1, l2⟩, hp, _, _⟩ := told0 ht1 rfl
    have hcn := comp_num hya.1 hyb.1 hlab
    have hcy : yes P (comp a b) := ⟨hcn, by rw [comp_len]; exact hya.2⟩
    have hZ := ren_ev hc1 ht1 (num := comp a b) (by rw [comp_len]; omega)
    rw [renR_yes hcy] at hZ
    rw [show ((a.length : Int) != (b.length : Int)) = false by rw [bne_eq_false_iff_eq]; omega]
    obtain ⟨r, b1, b2⟩ := back_ev (comp a b) (by rw [comp_len]; omega)
    obtain ⟨s, b3, b4⟩ := rback_ev (comp a b) (by rw [comp_len]; omega)
    have e := IsoB.both_same b2 b4
    subst e
    have hrl : r.1.length ≤ 1000000 := by
      rcases b2 with ⟨rfl, _⟩ | ⟨_, _, h, _⟩
      · simp
      · rw [h, comp_len]; omega
    refine Ev.step (fun k => ?_) (tl0 hya.1 hlab (by omega) P (renP b (renP a P P.length) (renP a P P.length).length) T ((T.map (ren a)).map (ren b)) true ?_ a.length 0 (by omega))
    · rw [lapidarylaw13_IsoTwice.j1, if_neg (by decide)]
      rfl
    · refine Ev.bind (f := fun k bt329 => ((iso_Back.f k (comp a b)).bind fun bt337 => ((lapidaryref13_Back.f k (comp a b)).bind fun bt341 => (if bt329.2.2 = 0 then ((lapidaryref10_Same.f k (renP b (renP a P P.length) (renP a P P.length).length) ((T.map (ren a)).map (ren b)) bt329.1 bt329.2.1).bind fun t345 => (if t345 = true then ((lapidaryref00_SameInts.f k bt337.1 bt341.1).bind fun t346 => (if t346 = true then ((lapidarylaw13_known.f).bind fun t347 => (some t347)) else (some false))) else (some false))) else (some false))))) hZ ?_
      refine Ev.bind (f := fun k bt337 => ((lapidaryref13_Back.f k (comp a b)).bind fun bt341 => (if (0 : Int) = 0 then ((lapidaryref10_Same.f k (renP b (renP a P P.length) (renP a P P.length).length) ((T.map (ren a)).map (ren b)) (renP (comp a b) P P.length) (T.map (ren (comp a b)))).bind fun t345 => (if t345 = true then ((lapidaryref00_SameInts.f k bt337.1 bt341.1).bind fun t346 => (if t346 = true then ((lapidarylaw13_known.f).bind fun t347 => (some t347)) else (some false))) else (some false))) else (some false)))) b1 ?_
      refine Ev.bind (f := fun k bt341 => (if (0 : Int) = 0 then ((lapidaryref10_Same.f k (renP b (renP a P P.length) (renP a P P.length).length) ((T.map (ren a)).map (ren b)) (renP (comp a b) P P.length) (T.map (ren (comp a b)))).bind fun t345 => (if t345 = true then ((lapidaryref00_SameInts.f k r.1 bt341.1).bind fun t346 => (if t346 = true then ((lapidarylaw13_known.f).bind fun t347 => (some t347)) else (some false))) else (some false))) else (some false))) b3 ?_
      refine Ev.congr (fun k => if_pos rfl) ?_
      rw [comp_points hya.1 hyb.1 hya.2 hlb, comp_tris hp hya.2]
      refine Ev.bind (f := fun k t345 => (if t345 = true then ((lapidaryref00_SameInts.f k r.1 r.1).bind fun t346 => (if t346 = true then ((lapidarylaw13_known.f).bind fun t347 => (some t347)) else (some false))) else (some false))) (same_ev _ _ (by rw [renP_len]; omega) (by rw [List.length_map]; omega)) ?_
      refine Ev.congr (fun k => if_pos rfl) ?_
      refine Ev.bind (f := fun k t346 => (if t346 = true then ((lapidarylaw13_known.f).bind fun t347 => (some t347)) else (some false))) (IsoB.ints_same r.1 hrl) ?_
      exact Ev.congr (fun k => if_pos rfl) (Ev.now _)
  have hm := hmain _ _ rfl rfl
  generalize RenR P T a c1 = X at *
  generalize RenR X.1 X.2.1 b c2 = Y at *
  have hj : Ev (fun k => if X.2.2 = 0 then (if Y.2.2 = 0 then (lapidarylaw13_IsoTwice.j1 k a b X.2.2 Y.2.2 ((a.length : Int) != (b.length : Int)) P T X.1 X.2.1 Y.1 Y.2.1) else (lapidarylaw13_IsoTwice.j1 k a b X.2.2 Y.2.2 true P T X.1 X.2.1 Y.1 Y.2.1)) else (lapidarylaw13_IsoTwice.j1 k a b X.2.2 Y.2.2 true P T X.1 X.2.1 Y.1 Y.2.1)) true := by
    have ht := j1_true a b X.2.2 Y.2.2 P T X.1 X.2.1 Y.1 Y.2.1 hX0 hY0
    by_cases hx : X.2.2 = 0
    · by_cases hy : Y.2.2 = 0
      · exact Ev.congr (fun k => by rw [if_pos hx, if_pos hy]) (hm hx hy)
      · exact Ev.congr (fun k => by rw [if_pos hx, if_neg hy]) ht
    · exact Ev.congr (fun k => by rw [if_neg hx]) ht
  refine Ev.rounds (Ev.congr (fun k => ?_) (Ev.step (f := fun k => (iso_Renamed.f k P T a).bind fun bt304 => ((iso_Renamed.f k bt304.1 bt304.2.1 b).bind fun bt312 => (if bt304.2.2 = 0 then (if bt312.2.2 = 0 then (lapidarylaw13_IsoTwice.j1 k a b bt304.2.2 bt312.2.2 ((a.length : Int) != (b.length : Int)) P T bt304.1 bt304.2.1 bt312.1 bt312.2.1) else (lapidarylaw13_IsoTwice.j1 k a b bt304.2.2 bt312.2.2 true P T bt304.1 bt304.2.1 bt312.1 bt312.2.1)) else (lapidarylaw13_IsoTwice.j1 k a b bt304.2.2 bt312.2.2 true P T bt304.1 bt304.2.1 bt312.1 bt312.2.1)))) (g := fun k => lapidarylaw13_IsoTwice.j0 k a b false P T) (fun k => ?_) (Ev.bind (f := fun k bt304 => ((iso_Renamed.f k bt304.1 bt304.2.1 b).bind fun bt312 => (if bt304.2.2 = 0 then (if bt312.2.2 = 0 then (lapidarylaw13_IsoTwice.j1 k a b bt304.2.2 bt312.2.2 ((a.length : Int) != (b.length : Int)) P T bt304.1 bt304.2.1 bt312.1 bt312.2.1) else (lapidarylaw13_IsoTwice.j1 k a b bt304.2.2 bt312.2.2 true P T bt304.1 bt304.2.1 bt312.1 bt312.2.1)) else (lapidarylaw13_IsoTwice.j1 k a b bt304.2.2 bt312.2.2 true P T bt304.1 bt304.2.1 bt312.1 bt312.2.1)))) hX (Ev.bind (f := fun k bt312 => (if X.2.2 = 0 then (if bt312.2.2 = 0 then (lapidarylaw13_IsoTwice.j1 k a b X.2.2 bt312.2.2 ((a.length : Int) != (b.length : Int)) P T X.1 X.2.1 bt312.1 bt312.2.1) else (lapidarylaw13_IsoTwice.j1 k a b X.2.2 bt312.2.2 true P T X.1 X.2.1 bt312.1 bt312.2.1)) else (lapidarylaw13_IsoTwice.j1 k a b X.2.2 bt312.2.2 true P T X.1 X.2.1 bt312.1 bt312.2.1))) hY hj))))
  · unfold lapidarylaw13_IsoTwice.f lapidarylaw13_long.f
    rw [if_neg g1, Option.bind_some, decide_eq_false g2, if_neg (by decide), if_neg g3, decide_eq_false g4]
  · rw [lapidarylaw13_IsoTwice.j0, if_neg (by decide)]
end Go.Proofs.YtbdpfmpbooikiaaDoor.IsoR
namespace Go.Proofs.YtbdpfmpbooikiaaDoor.IsoW
open Go Go.RowKit Go.Proofs.YtbdpfmpbooikiaaDoor.PIsr Go.Proofs.YtbdpfmpbooikiaaDoorW.PrintWords
set_option linter.unusedVariables false
theorem isoTwice_walk (W : World) (z : List S45 × List S57) (cs : Array Value) (hK : k25.K W z cs.toList) (hg : Rgood25 z) (A : Option Addr) (l : List Int) (c : Nat) (hr : Kd.C (Kd.int .i64) W A l.length l) (hc : l.length ≤ c) (hg2 : l.length * Tryd.prog.bytesOf 3 ≤ reachBytes ∧ ∀ x ∈ l, (Lit.int .i64 x).wf = true)
    (A2 : Option Addr) (l2 : List Int) (c2 : Nat) (hr2 : Kd.C (Kd.int .i64) W A2 l2.length l2) (hc2 : l2.length ≤ c2) (hg3 : l2.length * Tryd.prog.bytesOf 3 ≤ reachBytes ∧ ∀ x ∈ l2, (Lit.int .i64 x).wf = true)
    (hG : Kd.C k57 W (some ⟨0, 0, none⟩) 1 [⟨1, 2, 0⟩]) : Calls Tryd.prog 7 #[.agg cs, .slice A l.length c, .slice A2 l2.length c2] W fun e W' => e = .returned (.bool true) ∧ Below W.heap.size W W' := by
  obtain ⟨A0, c0, A1, c1, rfl, h0, h1, C0, C1⟩ := mesh_open hK
  obtain ⟨k, hk⟩ := IsoR.isoTwice z.1 z.2 l l2
  exact lapidarylaw13_IsoTwice.calls k A0 c0 z.1 A1 c1 z.2 A c l A2 c2 l2 true W C0 h0 C1 h1 hr hc hr2 hc2 hG hk
end Go.Proofs.YtbdpfmpbooikiaaDoor.IsoW
