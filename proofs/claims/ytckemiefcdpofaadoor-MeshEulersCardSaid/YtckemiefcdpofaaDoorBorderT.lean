import Derived.Test.YtckemiefcdpofaaDoorCheckStub
import Derived.Test.YtckemiefcdpofaaDoorBorderP
namespace Go.Proofs.YtckemiefcdpofaaDoor.MC
open Go Go.RowKit Go.Maps Go.WideMaps Go.Proofs.YtckemiefcdpofaaDoor.Mem Go.Proofs.YtckemiefcdpofaaDoor.PMsr Go.Proofs.YtckemiefcdpofaaDoorW.PrintWords Go.Proofs.YtckemiefcdpofaaDoorW.PrintLast Go.Proofs.YtckemiefcdpofaaDoorW.PrintMore Go.Proofs.YtckemiefcdpofaaDoor.MM Go.Proofs.YtckemiefcdpofaaDoor.MR
set_option linter.unusedVariables false
set_option linter.unusedSimpArgs false
set_option maxRecDepth 100000
theorem table_ok (P : List S55) (T : List S36) (ht : MR.Told P T 0) (A0 : Option Addr) (c0 : Nat) (A1 : Option Addr) (c1 : Nat) (w : World) (hr1 : Kd.C k36 w A1 T.length T) (hc1 : T.length ≤ c1) (hG : Gl w) :
    Calls Tryd.prog 31 #[.agg #[.slice A0 P.length c0, .slice A1 T.length c1]] w fun e w' => e = .returned (.tuple #[.map (some (w.heap.size + 1)), .bool true]) ∧ Below w.heap.size w w' ∧ w'.ownsMap Tryd.prog 52 (plainElem Tryd.prog 3) (w.heap.size + 1) (3 * T.length) (datE (edgesU T T.length)) := by
  obtain ⟨h1, hp, hs, _⟩ : (P.length ≤ 4000 ∧ T.length ≤ 8000) ∧ Plain P T ∧ Single T ∧ True := by
    generalize h0 : (0 : Int) = r at ht
    cases ht with
    | long h => cases h0
    | arg _ h => cases h0
    | edge _ _ h => cases h0
    | vertex _ _ _ h => cases h0
    | ok h hp hs _ => exact ⟨h, hp, hs, trivial⟩
  have hpl : ∀ i, i < T.length → Fan.plain3 (trs T i) := fun i hi => (hp.2 i hi).2
  have hbd := plain_bounds hp
  have hwf : ∀ q ∈ T, (Lit.int .i64 q.f0).wf = true ∧ (Lit.int .i64 q.f1).wf = true ∧ (Lit.int .i64 q.f2).wf = true := fun q hq => by
    obtain ⟨b0, b1, b2⟩ := hbd q hq
    exact ⟨wf_small (by omega), wf_small (by omega), wf_small (by omega)⟩
  have htab := table39 w A0 A1 P T c0 c1 hr1 hc1 hG hwf (by omega) (Firsts T) (¬ Single T) (fun j hj => absurd hj (Nat.not_lt_zero _))
    (fun i k hi hk hh hs => by
      obtain ⟨e1, e2⟩ := new_edges hi hpl k hk rfl
      have hw : wfE ((edgeL (T.getD i z36)).getD k (0, 0)) := edge_wf hp (by omega) hi e1
      have hwu : ∀ p ∈ MM.upto T i (T.getD i z36) k, wfE p.1 := by
        intro p hp2
        unfold MM.upto at hp2
        rw [Int.toNat_natCast, List.mem_append] at hp2
        rcases hp2 with h | h
        · exact edgesU_wf hp (by omega) (by omega) p h
        · obtain ⟨e', h4, rfl⟩ := List.mem_map.1 h
          exact edge_wf hp (by omega) hi (List.mem_of_mem_take h4)
      obtain ⟨m, h5, h6⟩ := e2.1 ((has_datE hwu hw).1 hh)
      have := hs m (by omega) i hi _ h6 e1
      omega)
    (fun i hi hFi hno => by
      intro j hj e he m hm
      by_cases e1 : j = i
      · subst e1
        obtain ⟨k, hk, hke⟩ : ∃ k, k < 3 ∧ e = (edgeL (T.getD j z36)).getD k (0, 0) := by
          obtain ⟨k, hk, hke⟩ := getD_of_mem (z := ((0 : Int), (0 : Int))) (show e ∈ edgeL (T.getD j z36) from he)
          exact ⟨k, hk, hke.symm⟩
        obtain ⟨e3, e4⟩ := new_edges hi hpl k hk hke
        intro hc
        have hwu : ∀ p ∈ MM.upto T j (T.getD j z36) k, wfE p.1 := by
          intro p hp2
          unfold MM.upto at hp2
          rw [Int.toNat_natCast, List.mem_append] at hp2
          rcases hp2 with h | h
          · exact edgesU_wf hp (by omega) (by omega) p h
          · obtain ⟨e', h4, rfl⟩ := List.mem_map.1 h
            exact edge_wf hp (by omega) hi (List.mem_of_mem_take h4)
        have h7 := (has_datE hwu (edge_wf hp (by omega) hi e3)).2 (e4.2 ⟨m, hm, hc⟩)
        have h8 := hno k hk
        rw [← hke, h7] at h8
        cases h8
      · exact hFi j (by omega) e he m hm)
  refine htab.mono ?_
  rintro e w' ⟨v, ok, rfl, hb, hyes, hno⟩
  cases ok with
  | false => exact absurd hs (hno rfl)
  | true =>
    obtain ⟨rfl, hown, _⟩ := hyes rfl
    exact ⟨rfl, hb, hown⟩
end Go.Proofs.YtckemiefcdpofaaDoor.MC
