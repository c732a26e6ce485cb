import Derived.Test.YtckemiefcdpofaaDoorMeshTable
import Derived.Maps.RangeWalk
namespace Go.Proofs.YtckemiefcdpofaaDoor.MM
open Go Go.RowKit Go.Maps Go.WideMaps Go.Proofs.YtckemiefcdpofaaDoor.Mem Go.Proofs.YtckemiefcdpofaaDoor.PMsr Go.Proofs.YtckemiefcdpofaaDoorW.PrintWords Go.Proofs.YtckemiefcdpofaaDoorW.PrintLast Go.Proofs.YtckemiefcdpofaaDoorW.PrintMore
set_option linter.unusedVariables false
set_option linter.unusedSimpArgs false
set_option maxRecDepth 100000
theorem lit3 {n : Nat} {v : Value} {ls : List Lit} (h : Tryd.prog.keyLits (n + 1) 3 [v] = some ls) : ∃ z, v = .int .i64 z ∧ (Lit.int .i64 z).wf = true := by
  simp only [Program.keyLits, Tryd.underlying3] at h
  cases v with
  | int q z =>
    dsimp only at h
    split at h
    · rename_i hq
      obtain ⟨rfl, hw⟩ := hq
      exact ⟨z, rfl, hw⟩
    · cases h
  | _ => cases h
theorem key_inv (key : Value) (kl : Lit) (h : keyOf Tryd.prog 52 key = some kl) : ∃ x : Int × Int, key = .agg #[.int .i64 x.1, .int .i64 x.2] ∧ (Lit.int .i64 x.1).wf = true ∧ (Lit.int .i64 x.2).wf = true ∧ kl = kE x := by
  have h0 := h
  unfold keyOf at h
  rw [u52] at h
  dsimp only at h
  split at h
  · rename_i hf
    rw [Bool.and_eq_true] at hf
    have hff := hf.2
    cases key with
    | agg cs =>
      simp only [Value.formed, u52] at hff
      have c52 : Tryd.prog.cellsOf 52 = 2 := by kernel_rfl
      have c3 : Tryd.prog.cellsOf 3 = 1 := by kernel_rfl
      rw [c52] at hff
      have hsz : cs.size = 2 := by simpa using hff
      obtain ⟨l⟩ := cs
      match l, hsz with
      | [a, b], _ =>
        obtain ⟨n, hn⟩ : ∃ n, Tryd.prog.types.size + 1 = n + 2 := ⟨Tryd.prog.types.size - 1, by have : 2 ≤ Tryd.prog.types.size := of_decide_eq_true (by kernel_rfl); omega⟩
        rw [hn, Option.map_eq_some_iff] at h
        obtain ⟨ls, h, _⟩ := h
        have hc : (Value.agg ⟨[a, b]⟩).cells.toList = [a, b] := rfl
        rw [hc] at h
        obtain ⟨m, hm⟩ : ∃ m, m = n + 1 := ⟨_, rfl⟩
        have h' : Tryd.prog.keyLits (m + 1) 52 [a, b] = some ls := by rw [hm]; exact h
        simp only [Program.keyLits, u52] at h'
        rw [c52, c3, if_pos (by rfl), show List.range 2 = [0, 1] from rfl, Option.map_eq_some_iff] at h'
        obtain ⟨lss, h', _⟩ := h'
        simp only [List.mapM_cons, List.mapM_nil] at h'
        rw [show ([a, b].drop (0 * 1)).take 1 = [a] from rfl, show ([a, b].drop (1 * 1)).take 1 = [b] from rfl] at h'
        have ha : ∃ l1, Tryd.prog.keyLits m 3 [a] = some l1 := by
          cases hh : Tryd.prog.keyLits m 3 [a] with
          | none => simp [hh] at h'
          | some l1 => exact ⟨l1, rfl⟩
        have hb : ∃ l1, Tryd.prog.keyLits m 3 [b] = some l1 := by
          cases hh : Tryd.prog.keyLits m 3 [b] with
          | none => simp [hh] at h'
          | some l1 => exact ⟨l1, rfl⟩
        subst hm
        obtain ⟨_, ha⟩ := ha
        obtain ⟨_, hb⟩ := hb
        obtain ⟨x, rfl, hx⟩ := lit3 ha
        obtain ⟨y, rfl, hy⟩ := lit3 hb
        have hk := kE_key hx hy
        refine ⟨(x, y), rfl, hx, hy, ?_⟩
        have h1 : keyOf Tryd.prog 52 (.agg #[.int .i64 x, .int .i64 y]) = some kl := h0
        rw [hk] at h1
        exact (Option.some.inj h1).symm
    | _ => simp [Value.formed, u52] at hff
  · cases h
end Go.Proofs.YtckemiefcdpofaaDoor.MM
