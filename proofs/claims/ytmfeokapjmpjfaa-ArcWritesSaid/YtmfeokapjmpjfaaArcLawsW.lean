/- Any arcs have the bytes that the chapter says, or none; any bytes are the arcs that it says, or none. -/
import Derived.Test.YtmfeokapjmpjfaaArcLaws
import Derived.Test.YtmfeokapjmpjfaaPArcx11
namespace Go.Proofs.Ytmfeokapjmpjfaa.ArcW
open Go Go.RowKit Go.Proofs.Ytmfeokapjmpjfaa.Mem Go.Proofs.Ytmfeokapjmpjfaa.VM Go.Proofs.Ytmfeokapjmpjfaa.VB Go.Proofs.Ytmfeokapjmpjfaa.PArc Go.Proofs.YtmfeokapjmpjfaaW.PrintWords Go.Proofs.YtmfeokapjmpjfaaW.PrintLast Go.Proofs.YtmfeokapjmpjfaaW.PrintMore
set_option linter.unusedVariables false
set_option linter.unusedSimpArgs false

theorem writes_j0 (l : List (List S48)) (h : okL l) (b : List Int) (hb : ∀ c ∈ b, 0 ≤ c ∧ c < 256) (x : Bool) (hx : x = false → b.length ≤ 900) : Ev (fun k => lapidarylaw15_ArcWrites.j0 k l b x) true := by
  cases x with
  | true =>
    refine Ev.step (fun k => ?_) known_then
    simp only [lapidarylaw15_ArcWrites.j0, if_true]
  | false =>
    have hbl := hx rfl
    have h7 : Ev (fun k => (arc_Check.f k l).bind fun t303 => ((lapidaryref15_Check.f k l).bind fun t304 => (if t303 = t304 then ((lapidaryref15_Same.f k (decR b).1 (decR b).1).bind fun t305 => (if t305 = true then (if (decR b).2 = (decR b).2 then ((lapidarylaw15_known.f k).bind fun t306 => (some t306)) else (some false)) else (some false))) else (some false)))) true := by
      refine Ev.bind (chk_any h) (Ev.bind (f := fun k t304 => (if chkS l = t304 then ((lapidaryref15_Same.f k (decR b).1 (decR b).1).bind fun t305 => (if t305 = true then (if (decR b).2 = (decR b).2 then ((lapidarylaw15_known.f k).bind fun t306 => (some t306)) else (some false)) else (some false))) else (some false))) (rchk_any h) (Ev.congr (f := fun k => ((lapidaryref15_Same.f k (decR b).1 (decR b).1).bind fun t305 => (if t305 = true then (if (decR b).2 = (decR b).2 then ((lapidarylaw15_known.f k).bind fun t306 => (some t306)) else (some false)) else (some false)))) (fun k => ?_) (Ev.bind (same_refl (okL_dec hb)) (Ev.congr (fun k => ?_) known_then))))
      · rw [if_pos rfl]
      · rw [if_pos rfl, if_pos rfl]
    have h8 : Ev (fun k => ((lapidaryref15_Decode.f k b).bind fun bt298 => ((lapidaryref00_Same.f (encR l).1 (encR l).1).bind fun t302 => (if t302 = true then (if (encR l).2 = (encR l).2 then ((arc_Check.f k l).bind fun t303 => ((lapidaryref15_Check.f k l).bind fun t304 => (if t303 = t304 then ((lapidaryref15_Same.f k (decR b).1 bt298.1).bind fun t305 => (if t305 = true then (if (decR b).2 = bt298.2 then ((lapidarylaw15_known.f k).bind fun t306 => (some t306)) else (some false)) else (some false))) else (some false)))) else (some false)) else (some false))))) true := by
      refine Ev.bind (rdec_ev b hb (by omega)) (Ev.congr (fun k => ?_) h7)
      rw [VB.same_eq rfl, Option.bind_some, if_pos rfl, if_pos rfl]
    refine Ev.step (f := fun k => (arc_Encode.f k l).bind fun bt286 => ((lapidaryref15_Encode.f k l).bind fun bt290 => ((arc_Decode.f b).bind fun bt294 => ((lapidaryref15_Decode.f k b).bind fun bt298 => ((lapidaryref00_Same.f bt286.1 bt290.1).bind fun t302 => (if t302 = true then (if bt286.2 = bt290.2 then ((arc_Check.f k l).bind fun t303 => ((lapidaryref15_Check.f k l).bind fun t304 => (if t303 = t304 then ((lapidaryref15_Same.f k bt294.1 bt298.1).bind fun t305 => (if t305 = true then (if bt294.2 = bt298.2 then ((lapidarylaw15_known.f k).bind fun t306 => (some t306)) else (some false)) else (some false))) else (some false)))) else (some false)) else (some false))))))) (fun k => ?_) (Ev.bind (encode_any h) (Ev.bind (f := fun k bt290 => ((arc_Decode.f b).bind fun bt294 => ((lapidaryref15_Decode.f k b).bind fun bt298 => ((lapidaryref00_Same.f (encR l).1 bt290.1).bind fun t302 => (if t302 = true then (if (encR l).2 = bt290.2 then ((arc_Check.f k l).bind fun t303 => ((lapidaryref15_Check.f k l).bind fun t304 => (if t303 = t304 then ((lapidaryref15_Same.f k bt294.1 bt298.1).bind fun t305 => (if t305 = true then (if bt294.2 = bt298.2 then ((lapidarylaw15_known.f k).bind fun t306 => (some t306)) else (some false)) else (some false))) else (some false)))) else (some false)) else (some false)))))) (rencode_any h) (Ev.congr (fun k => ?_) h8)))
    · simp only [lapidarylaw15_ArcWrites.j0]
      rw [if_neg (by decide)]
    · rw [dec_some hb (by omega), Option.bind_some]

theorem arcWrites (l : List (List S48)) (h : okL l) (b : List Int) (hb : ∀ c ∈ b, 0 ≤ c ∧ c < 256) : ∃ k, lapidarylaw15_ArcWrites.f k l b = some true := by
  obtain ⟨t, hlong⟩ := long_any h.1
  refine Ev.rounds (Ev.bind (f := fun k t284 => (if t284 = true then (lapidarylaw15_ArcWrites.j0 k l b true) else (lapidarylaw15_ArcWrites.j0 k l b (decide ((b.length : Int) > 900))))) hlong ?_)
  cases t with
  | true => exact writes_j0 l h b hb true (fun h => nomatch h)
  | false => exact writes_j0 l h b hb _ (fun h => by have := of_decide_eq_false h; omega)

end Go.Proofs.Ytmfeokapjmpjfaa.ArcW
