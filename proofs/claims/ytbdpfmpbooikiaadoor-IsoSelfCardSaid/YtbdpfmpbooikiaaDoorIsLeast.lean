import Derived.Test.YtbdpfmpbooikiaaDoorMeshTable
import Derived.Test.YtbdpfmpbooikiaaDoorPIsrx5r
namespace Go.Proofs.YtbdpfmpbooikiaaDoor.IT
open Go Go.RowKit Go.Maps Go.WideMaps Go.Proofs.YtbdpfmpbooikiaaDoor.Mem Go.Proofs.YtbdpfmpbooikiaaDoor.PIsr Go.Proofs.YtbdpfmpbooikiaaDoorW.PrintWords Go.Proofs.YtbdpfmpbooikiaaDoorW.PrintLast Go.Proofs.YtbdpfmpbooikiaaDoorW.PrintMore
open Go.Proofs.YtbdpfmpbooikiaaDoor.MD (form_)
set_option linter.unusedVariables false
set_option linter.unusedSimpArgs false
theorem laidOut : laidOutB Tryd.prog = true := by kernel_rfl
theorem lawT : Keyed Tryd.prog 57 := Keyed.of_law (deep_law_laid laidOut (m := 3) (by omega) (of_decide_eq_true (by kernel_rfl)) (by kernel_rfl) (by rw [Tryd.underlying57]))
def wfT (q : S57) : Prop := (Lit.int .i64 q.f0).wf = true ∧ (Lit.int .i64 q.f1).wf = true ∧ (Lit.int .i64 q.f2).wf = true
def kT (q : S57) : Lit := .string (keyBytes [.int .i64 q.f0, .int .i64 q.f1, .int .i64 q.f2])
theorem kT_key {q : S57} (h : wfT q) : keyOf Tryd.prog 57 (.agg #[.int .i64 q.f0, .int .i64 q.f1, .int .i64 q.f2]) = some (kT q) := by
  obtain ⟨ha, hb, hc⟩ := h
  have hkt : Tryd.prog.keyType 57 = true := by kernel_rfl
  have hf : (Value.agg #[.int .i64 q.f0, .int .i64 q.f1, .int .i64 q.f2]).formed Tryd.prog 57 = true := by
    simp only [Value.formed, Tryd.underlying57]
    kernel_rfl
  have hs : ∃ n, Tryd.prog.types.size + 1 = n + 3 := ⟨Tryd.prog.types.size - 2, by have : 2 ≤ Tryd.prog.types.size := of_decide_eq_true (by kernel_rfl); omega⟩
  obtain ⟨n, hn⟩ := hs
  unfold keyOf
  rw [Tryd.underlying57]
  dsimp only
  rw [hkt, hf, Bool.and_true, if_pos rfl, hn]
  have c57 : Tryd.prog.cellsOf 57 = 3 := by kernel_rfl
  have c3 : Tryd.prog.cellsOf 3 = 1 := by kernel_rfl
  have hL : Tryd.prog.keyLits (n + 3) 57 (Value.agg #[.int .i64 q.f0, .int .i64 q.f1, .int .i64 q.f2]).cells.toList = some [Lit.int .i64 q.f0, Lit.int .i64 q.f1, Lit.int .i64 q.f2] := by
    have h1 : ∀ z : Int, (Lit.int .i64 z).wf = true → Tryd.prog.keyLits (n + 2) 3 [Value.int .i64 z] = some [Lit.int .i64 z] := by
      intro z hz
      simp only [Program.keyLits, Tryd.underlying3]
      rw [if_pos ⟨trivial, hz⟩]
    show Tryd.prog.keyLits ((n + 2) + 1) 57 _ = _
    generalize n + 2 = m at h1 ⊢
    simp only [Program.keyLits, Tryd.underlying57]
    rw [c57, c3, if_pos (by rfl), show List.range 3 = [0, 1, 2] from rfl]
    simp only [List.mapM_cons, List.mapM_nil]
    rw [show ((Value.agg #[Value.int IntKind.i64 q.f0, Value.int IntKind.i64 q.f1, Value.int IntKind.i64 q.f2]).cells.toList.drop (0 * 1)).take 1 = [Value.int .i64 q.f0] from rfl, show ((Value.agg #[Value.int IntKind.i64 q.f0, Value.int IntKind.i64 q.f1, Value.int IntKind.i64 q.f2]).cells.toList.drop (1 * 1)).take 1 = [Value.int .i64 q.f1] from rfl, show ((Value.agg #[Value.int IntKind.i64 q.f0, Value.int IntKind.i64 q.f1, Value.int IntKind.i64 q.f2]).cells.toList.drop (2 * 1)).take 1 = [Value.int .i64 q.f2] from rfl, h1 _ ha, h1 _ hb, h1 _ hc]
    rfl
  rw [hL]
  rfl
theorem kT_isKey {q : S57} (h : wfT q) : WideAt.IsKeyLit (kT q) := lawT.key (kT_key h)
theorem kT_inj {p q : S57} (hp : wfT p) (hq : wfT q) (h : kT p = kT q) : p = q := by
  have h1 := kT_key hp
  have h2 := kT_key hq
  rw [← h] at h2
  have h4 := lawT.inj h1 h2
  simp at h4
  cases p; cases q
  simp at h4
  simp [h4]
instance : DecidableEq S57 := fun a b => if h : a.f0 = b.f0 ∧ a.f1 = b.f1 ∧ a.f2 = b.f2 then isTrue (by cases a; cases b; simp at h; simp [h]) else isFalse (by rintro rfl; exact h ⟨rfl, rfl, rfl⟩)
structure Holds (D : DataW Unit) (S : S57 → Bool) : Prop where
  map : IsMap D
  at_ : ∀ q, wfT q → D.atKey (kT q) (.lit (.bool false)) = .lit (.bool (S q))
theorem holds_nil : Holds (.map []) (fun _ => false) := ⟨isMap_empty, fun _ _ => rfl⟩
theorem holds_put {D : DataW Unit} {S : S57 → Bool} (h : Holds D S) {p : S57} (hp : wfT p) : Holds (D.put (kT p) (.lit (.bool true))) (fun q => S q || decide (q = p)) := by
  refine ⟨h.map.put _ _, fun q hq => ?_⟩
  by_cases e : q = p
  · subst e
    rw [atKey_put_same h.map (kT_isKey hp)]
    simp
  · rw [atKey_put_other (fun hk => e (kT_inj hq hp hk)), h.at_ q hq]
    simp [e]
theorem holds_del {D : DataW Unit} {S : S57 → Bool} (h : Holds D S) {p : S57} (hp : wfT p) : Holds (D.del (kT p)) (fun q => S q && !decide (q = p)) := by
  refine ⟨h.map.del _, fun q hq => ?_⟩
  by_cases e : q = p
  · subst e
    rw [atKey_del_same]
    simp
  · rw [atKey_del_other (fun hk => e (kT_inj hq hp hk)), h.at_ q hq]
    simp [e]
theorem plainElem_bool_inv {P : Program} {e : TypeId} (he : P.underlying e = some .bool) {v : Value} {z : DataW Unit × List MemPlace} (h : plainElem P e v = some z) : ∃ c, v = .bool c ∧ z = (.lit (.bool c), []) := by
  unfold plainElem at h
  rw [he] at h
  cases v <;> simp at h
  subst h
  exact ⟨_, rfl, rfl⟩
theorem look_bool {w : World} {b n : Nat} {D : DataW Unit} {S : S57 → Bool} (h : w.ownsMap Tryd.prog 57 (plainElem Tryd.prog 4) b n D) (hS : Holds D S) {q : S57} (hq : wfT q) : (Instr.lookup 58 (.map (some b)) (.agg #[.int .i64 q.f0, .int .i64 q.f1, .int .i64 q.f2]) false).run Tryd.prog w = .ok (.bool (S q)) w := by
  have hz : (zeroValue 4).run Tryd.prog w = .ok (.bool false) w := by kernel_rfl
  obtain ⟨v, ps, hrun, hv⟩ := h.lookup lawT Tryd.underlying58 hz (plainElem_bool Tryd.underlying4 false) (kT_key hq)
  obtain ⟨c, rfl, hc⟩ := plainElem_bool_inv Tryd.underlying4 hv
  rw [hS.at_ q hq] at hc
  simp at hc
  rw [hrun, ← hc.1]
def rot (q : S57) : S57 := ⟨q.f1, q.f2, q.f0⟩
def high (q : S57) : Prop := q.f0 > q.f1 ∨ q.f0 > q.f2
instance (q : S57) : Decidable (high q) := by unfold high; infer_instance
def least (q : S57) : S57 := if high q then (if high (rot q) then rot (rot q) else rot q) else q
def leastF : Nat → S57 → S57
  | 0, q => q
  | k + 1, q => if high q then leastF k (rot q) else q
theorem least_eq (q : S57) : leastF 3 q = least q ∧ ¬ high (leastF 3 q) := by
  unfold least
  simp only [leastF]
  by_cases h1 : high q
  · by_cases h2 : high (rot q)
    · have h3 : ¬ high (rot (rot q)) := by unfold high rot at *; simp only at *; omega
      rw [if_pos h1, if_pos h2, if_neg h3, if_pos h1, if_pos h2]
      exact ⟨rfl, h3⟩
    · rw [if_pos h1, if_neg h2, if_pos h1, if_neg h2]
      exact ⟨rfl, h2⟩
  · rw [if_neg h1, if_neg h1]
    exact ⟨rfl, h1⟩
set_option maxHeartbeats 1000000 in
set_option maxRecDepth 100000 in
theorem least30 (w : World) (q : S57) : Calls Tryd.prog 30 #[.agg #[.int .i64 q.f0, .int .i64 q.f1, .int .i64 q.f2]] w fun e w' => e = .returned (.agg #[.int .i64 (least q).f0, .int .i64 (least q).f1, .int .i64 (least q).f2]) ∧ Below w.heap.size w w' := by
  have hb1 := ((Below.refl w.heap.size w).alloc (Nat.le_refl _) (.cells #[.int .i64 q.f0, .int .i64 q.f1, .int .i64 q.f2] 57 (0, 0))).alloc (by simp) (.cells #[.int .i64 0, .int .i64 0, .int .i64 0] 57 (0, 0))
  have hm1 := (Blk.here w 57 #[.int .i64 q.f0, .int .i64 q.f1, .int .i64 q.f2]).alloc (.cells #[.int .i64 0, .int .i64 0, .int .i64 0] 57 (0, 0))
  have hz1 := Blk.here (w.alloc (.cells #[.int .i64 q.f0, .int .i64 q.f1, .int .i64 q.f2] 57 (0, 0))) 57 #[.int .i64 0, .int .i64 0, .int .i64 0]
  rw [show (w.alloc (.cells #[.int .i64 q.f0, .int .i64 q.f1, .int .i64 q.f2] 57 (0, 0))).heap.size = w.heap.size + 1 by simp] at hz1
  go_enter Tryd.func30, Tryd.ntmps30
  go_wp2_with fail
  generalize (w.alloc (.cells #[.int .i64 q.f0, .int .i64 q.f1, .int .i64 q.f2] 57 (0, 0))).alloc (.cells #[.int .i64 0, .int .i64 0, .int .i64 0] 57 (0, 0)) = w1 at *
  obtain ⟨g, hg⟩ : ∃ g, g = w.heap.size := ⟨_, rfl⟩
  have hgl : w.heap.size ≤ g := by omega
  rw [← hg] at hm1 hz1 ⊢
  clear hg
  go_loopg [3] 3 (fun kq v3 wr => ∃ p : S57, Aside0 (leastF kq p = leastF 3 q) ∧ Below w.heap.size w wr ∧ Blk wr g 57 #[.int .i64 p.f0, .int .i64 p.f1, .int .i64 p.f2] ∧ Blk wr (g + 1) 57 #[.int .i64 0, .int .i64 0, .int .i64 0])
  case atStart => exact ⟨q, ⟨rfl⟩, hb1, hm1, hz1⟩
  case round =>
    clear hb1 hm1 hz1
    obtain ⟨p, HL, hB, hm, hz⟩ := hrel
    have x0 : wr.cell? ⟨g, 0, none⟩ = some (.int .i64 p.f0) := hm.cell 0
    have x1 : wr.cell? ⟨g, 1, none⟩ = some (.int .i64 p.f1) := hm.cell 1
    have x2 : wr.cell? ⟨g, 2, none⟩ = some (.int .i64 p.f2) := hm.cell 2
    have f0 := hm.frozen 0
    have f1 := hm.frozen 1
    have f2 := hm.frozen 2
    by_cases c1 : p.f0 > p.f1
    · have d1 : decide (p.f0 > p.f1) = true := decide_eq_true c1
      have hh : high p := .inl c1
      have hk : ∃ k1, gk = k1 + 1 ∧ leastF k1 (rot p) = leastF 3 q := by
        cases gk with
        | zero => exact absurd hh (by rw [show p = leastF 3 q from HL.out]; exact (least_eq q).2)
        | succ k1 =>
          have := HL.out
          rw [leastF, if_pos hh] at this
          exact ⟨k1, rfl, this⟩
      obtain ⟨k1, rfl, hk1⟩ := hk
      replace hk1 := Lib.hid hk1
      have hm2 := ((hm.set_ 0 (.int .i64 p.f1)).set_ 1 (.int .i64 p.f2)).set_ 2 (.int .i64 p.f0)
      have hz2 := ((hz.far (p := ⟨g, 0, none⟩) (by show g + 1 ≠ g; omega) (.int .i64 p.f1)).far (p := ⟨g, 1, none⟩) (by show g + 1 ≠ g; omega) (.int .i64 p.f2)).far (p := ⟨g, 2, none⟩) (by show g + 1 ≠ g; omega) (.int .i64 p.f0)
      have hB2 := ((hB.setCell (p := ⟨g, 0, none⟩) hgl (.int .i64 p.f1)).setCell (p := ⟨g, 1, none⟩) hgl (.int .i64 p.f2)).setCell (p := ⟨g, 2, none⟩) hgl (.int .i64 p.f0)
      clear hm hz hB
      go_wp2_with fail
      go_roundg k1
      case rel => exact ⟨rot p, ⟨hk1.out⟩, hB2, hm2, hz2⟩
      case measure => omega
    · have d1 : decide (p.f0 > p.f1) = false := decide_eq_false c1
      by_cases c2 : p.f0 > p.f2
      · have d2 : decide (p.f0 > p.f2) = true := decide_eq_true c2
        have hh : high p := .inr c2
        have hk : ∃ k1, gk = k1 + 1 ∧ leastF k1 (rot p) = leastF 3 q := by
          cases gk with
          | zero => exact absurd hh (by rw [show p = leastF 3 q from HL.out]; exact (least_eq q).2)
          | succ k1 =>
            have := HL.out
            rw [leastF, if_pos hh] at this
            exact ⟨k1, rfl, this⟩
        obtain ⟨k1, rfl, hk1⟩ := hk
        replace hk1 := Lib.hid hk1
        have hm2 := ((hm.set_ 0 (.int .i64 p.f1)).set_ 1 (.int .i64 p.f2)).set_ 2 (.int .i64 p.f0)
        have hz2 := ((hz.far (p := ⟨g, 0, none⟩) (by show g + 1 ≠ g; omega) (.int .i64 p.f1)).far (p := ⟨g, 1, none⟩) (by show g + 1 ≠ g; omega) (.int .i64 p.f2)).far (p := ⟨g, 2, none⟩) (by show g + 1 ≠ g; omega) (.int .i64 p.f0)
        have hB2 := ((hB.setCell (p := ⟨g, 0, none⟩) hgl (.int .i64 p.f1)).setCell (p := ⟨g, 1, none⟩) hgl (.int .i64 p.f2)).setCell (p := ⟨g, 2, none⟩) hgl (.int .i64 p.f0)
        clear hm hz hB
        go_wp2_with fail
        go_roundg k1
        case rel => exact ⟨rot p, ⟨hk1.out⟩, hB2, hm2, hz2⟩
        case measure => omega
      · have d2 : decide (p.f0 > p.f2) = false := decide_eq_false c2
        have hh : ¬ high p := fun h => h.elim c1 c2
        have hp : p = least q := by
          have := HL.out
          rw [← (least_eq q).1, ← this]
          cases gk with
          | zero => rfl
          | succ k1 => rw [leastF, if_neg hh]
        have z0 : wr.cell? ⟨g + 1, 0, none⟩ = some (.int .i64 0) := hz.cell 0
        have z1 : wr.cell? ⟨g + 1, 1, none⟩ = some (.int .i64 0) := hz.cell 1
        have z2 : wr.cell? ⟨g + 1, 2, none⟩ = some (.int .i64 0) := hz.cell 2
        have zf0 := hz.frozen 0
        have zf1 := hz.frozen 1
        have zf2 := hz.frozen 2
        have hz2 := ((hz.set_ 0 (.int .i64 p.f0)).set_ 1 (.int .i64 p.f1)).set_ 2 (.int .i64 p.f2)
        have hB2 := ((hB.setCell (p := ⟨g + 1, 0, none⟩) (by show w.heap.size ≤ g + 1; omega) (.int .i64 p.f0)).setCell (p := ⟨g + 1, 1, none⟩) (by show w.heap.size ≤ g + 1; omega) (.int .i64 p.f1)).setCell (p := ⟨g + 1, 2, none⟩) (by show w.heap.size ≤ g + 1; omega) (.int .i64 p.f2)
        have y0 : (((wr.setCell ⟨g + 1, 0, none⟩ (.int .i64 p.f0)).setCell ⟨g + 1, 1, none⟩ (.int .i64 p.f1)).setCell ⟨g + 1, 2, none⟩ (.int .i64 p.f2)).cell? ⟨g + 1, 0, none⟩ = some (.int .i64 p.f0) := hz2.cell 0
        have y1 : (((wr.setCell ⟨g + 1, 0, none⟩ (.int .i64 p.f0)).setCell ⟨g + 1, 1, none⟩ (.int .i64 p.f1)).setCell ⟨g + 1, 2, none⟩ (.int .i64 p.f2)).cell? ⟨g + 1, 1, none⟩ = some (.int .i64 p.f1) := hz2.cell 1
        have y2 : (((wr.setCell ⟨g + 1, 0, none⟩ (.int .i64 p.f0)).setCell ⟨g + 1, 1, none⟩ (.int .i64 p.f1)).setCell ⟨g + 1, 2, none⟩ (.int .i64 p.f2)).cell? ⟨g + 1, 2, none⟩ = some (.int .i64 p.f2) := hz2.cell 2
        replace hp := Lib.hid hp
        clear hm hz hB
        go_wp2
        refine bodyPost_ret (v := .agg #[.int .i64 p.f0, .int .i64 p.f1, .int .i64 p.f2]) (by rw [results, show Tryd.f30.results = #[.cell 2 57] from rfl]; go_simp) rfl ?_
        rw [← hp.out]
        exact ⟨rfl, hB2⟩
end Go.Proofs.YtbdpfmpbooikiaaDoor.IT
