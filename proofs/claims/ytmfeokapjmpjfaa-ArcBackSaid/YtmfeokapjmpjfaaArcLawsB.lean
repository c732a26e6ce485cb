/- Arcs are read as they were; bytes that are some are their bytes; cut short, or with any behind, they are none. -/
import Derived.Test.YtmfeokapjmpjfaaArcLaws
import Derived.Test.YtmfeokapjmpjfaaPArcx11b
namespace Go.Proofs.Ytmfeokapjmpjfaa.ArcW
open Go Go.RowKit Go.Proofs.Ytmfeokapjmpjfaa.Mem Go.Proofs.Ytmfeokapjmpjfaa.VM Go.Proofs.Ytmfeokapjmpjfaa.VB Go.Proofs.Ytmfeokapjmpjfaa.PArc Go.Proofs.YtmfeokapjmpjfaaW.PrintWords Go.Proofs.YtmfeokapjmpjfaaW.PrintLast Go.Proofs.YtmfeokapjmpjfaaW.PrintMore
set_option linter.unusedVariables false
set_option linter.unusedSimpArgs false

theorem back_j1 (b : List Int) (hb : ∀ c ∈ b, 0 ≤ c ∧ c < 256) (hbl : b.length ≤ 900) : Ev (fun k => lapidarylaw15_ArcBack.j1 k b) true := by
  rcases decR_cases hb with ⟨l, hc, he, h⟩ | ⟨_, h⟩
  · refine Ev.step (f := fun k => (arc_Encode.f k l).bind fun bt343 => (if bt343.2 = 0 then ((lapidaryref00_Same.f bt343.1 b).bind fun t347 => (if t347 = true then ((lapidarylaw15_known.f k).bind fun t348 => (some t348)) else (some false))) else (some false))) (fun k => ?_) (Ev.bind (encode_any (okL_of hc)) (Ev.congr (fun k => ?_) known_then))
    · simp only [lapidarylaw15_ArcBack.j1]
      rw [dec_some hb (by omega), h, Option.bind_some, if_pos rfl]
    · unfold encR
      rw [if_pos hc, if_pos rfl, VB.same_eq he.symm, Option.bind_some, if_pos rfl]
  · refine Ev.step (fun k => ?_) known_then
    simp only [lapidarylaw15_ArcBack.j1]
    rw [dec_some hb (by omega), h, Option.bind_some, if_neg (by decide)]
    exact if_pos rfl

theorem back_j0 (l : List (List S48)) (h : okL l) (b : List Int) (hb : ∀ c ∈ b, 0 ≤ c ∧ c < 256) (cut more : Int) (hcut : 0 ≤ cut ∧ cut < 65536) (hmore : 0 ≤ more ∧ more < 256) (x : Bool) (hx : x = false → b.length ≤ 900 ∧ (chkS l = 0 → l.length + tot l ≤ 200)) : Ev (fun k => lapidarylaw15_ArcBack.j0 k l b cut more x) true := by
  cases x with
  | true =>
    refine Ev.step (fun k => ?_) known_then
    simp only [lapidarylaw15_ArcBack.j0, if_true]
  | false =>
    obtain ⟨hbl, hsm⟩ := hx rfl
    by_cases hc : chkS l = 0
    · have hs := hsm hc
      have hu := nums_u64 hc
      have hlen := encs_len10 hu
      have hnl : (nums l).length ≤ 500 := by simp only [nums, List.length_cons, arcNums_len]; omega
      have hxb : ∀ c ∈ VB.encs (nums l), 0 ≤ c ∧ c < 256 := by
        intro c hc
        simp only [VB.encs, List.mem_flatMap] at hc
        obtain ⟨n, _, hn⟩ := hc
        exact enc_byte _ c hn
      have hpos : 0 < (VB.encs (nums l)).length := by have := encs_nonneg_len (nums l); simp only [nums, List.length_cons] at this ⊢; omega
      obtain ⟨X, hX⟩ : ∃ X, X = VB.encs (nums l) := ⟨_, rfl⟩
      have hE : encR l = (X, 0) := by unfold encR; rw [if_pos hc, hX]
      rw [← hX] at hlen hxb hpos
      have hd1 : decR X = (l, 0) := by
        rcases decR_cases hxb with ⟨k, hk, he, h⟩ | ⟨hno, _⟩
        · rw [hX] at he
          obtain ⟨h1, _⟩ := bytes_inj (t := []) hc hk (by rw [List.append_nil]; exact he)
          rw [h, h1]
        · exact absurd hX (hno l hc)
      have W2 := Lib.hid (show wrap64 cut = cut from Mem.w64 (by omega) (by omega))
      obtain ⟨c, hcc⟩ : ∃ c : Nat, Int.tmod cut (X.length : Int) = c ∧ c < X.length := by
        have h1 := Int.tmod_nonneg (X.length : Int) hcut.1
        have h2 := Int.tmod_lt_of_pos cut (show (0 : Int) < X.length by omega)
        exact ⟨(Int.tmod cut (X.length : Int)).toNat, by omega, by omega⟩
      obtain ⟨hcc, hclt⟩ := hcc
      have hd2 : decR (X.take c) = ([], 11) := by
        rcases decR_cases (b := X.take c) (fun z hz => hxb z (List.mem_of_mem_take hz)) with ⟨k, hk, he, h⟩ | ⟨_, h⟩
        · exfalso
          have h1 : VB.encs (nums k) ++ X.drop c = VB.encs (nums l) := by rw [← he, List.take_append_drop, hX]
          obtain ⟨_, h2⟩ := bytes_inj hk hc h1
          have := List.drop_eq_nil_iff.1 h2
          omega
        · exact h
      have hmb : ∀ z ∈ X ++ [more], 0 ≤ z ∧ z < 256 := by
        intro z hz
        rcases List.mem_append.1 hz with hz | hz
        · exact hxb z hz
        · rw [List.mem_singleton] at hz; rw [hz]; exact hmore
      have hd3 : decR (X ++ [more]) = ([], 11) := by
        rcases decR_cases (b := X ++ [more]) hmb with ⟨k, hk, he, h⟩ | ⟨_, h⟩
        · exfalso
          rw [hX] at he
          obtain ⟨_, h2⟩ := bytes_inj hc hk he
          cases h2
        · exact h
      refine Ev.step (f := fun k => (arc_Encode.f k l).bind fun bt312 => (if bt312.2 = 0 then (if (bt312.1.length : Int) = 0 then (some false) else ((arc_Decode.f bt312.1).bind fun bt316 => (if 0 ≤ (Int.tmod (wrap64 (cut)) (bt312.1.length : Int)) then (if (Int.tmod (wrap64 (cut)) (bt312.1.length : Int)) ≤ (bt312.1.length : Int) then ((arc_Decode.f (bt312.1.take ((Int.tmod (wrap64 (cut)) (bt312.1.length : Int)) : Int).toNat)).bind fun bt324 => ((lapidaryref00_Copy.f bt312.1).bind fun t328 => (if t328.length < 140737488355328 then ((arc_Decode.f (t328 ++ [more])).bind fun bt334 => (if bt316.2 = 0 then ((lapidaryref15_Same.f k bt316.1 l).bind fun t338 => (if t338 = true then (if bt324.2 = 11 then (if bt334.2 = 11 then (lapidarylaw15_ArcBack.j1 k b) else (some false)) else (some false)) else (some false))) else (some false))) else (none)))) else (none)) else (none)))) else (lapidarylaw15_ArcBack.j1 k b))) (fun k => ?_) (Ev.bind (encode_any h) (Ev.congr (f := fun k => (lapidaryref15_Same.f k l l).bind fun t338 => (if t338 = true then (lapidarylaw15_ArcBack.j1 k b) else (some false))) (fun k => ?_) (Ev.bind (same_refl h) (Ev.congr (fun k => ?_) (back_j1 b hb hbl)))))
      · simp only [lapidarylaw15_ArcBack.j0]
        rw [if_neg (by decide)]
      · rw [hE]
        dsimp only
        rw [if_pos rfl, if_neg (by omega), dec_some hxb (by omega), hd1, Option.bind_some, W2.out, hcc, if_pos (by omega), if_pos (by omega), Int.toNat_natCast, dec_some (fun z hz => hxb z (List.mem_of_mem_take hz)) (by rw [List.length_take]; omega), hd2, Option.bind_some]
        unfold lapidaryref00_Copy.f
        rw [if_pos (by simp; omega), Option.bind_some, List.nil_append, if_pos (by omega), dec_some hmb (by simp; omega), hd3, Option.bind_some, if_pos rfl]
        simp only [if_true]
      · rw [if_pos rfl]
    · refine Ev.step (f := fun k => (arc_Encode.f k l).bind fun bt312 => (if bt312.2 = 0 then (if (bt312.1.length : Int) = 0 then (some false) else ((arc_Decode.f bt312.1).bind fun bt316 => (if 0 ≤ (Int.tmod (wrap64 (cut)) (bt312.1.length : Int)) then (if (Int.tmod (wrap64 (cut)) (bt312.1.length : Int)) ≤ (bt312.1.length : Int) then ((arc_Decode.f (bt312.1.take ((Int.tmod (wrap64 (cut)) (bt312.1.length : Int)) : Int).toNat)).bind fun bt324 => ((lapidaryref00_Copy.f bt312.1).bind fun t328 => (if t328.length < 140737488355328 then ((arc_Decode.f (t328 ++ [more])).bind fun bt334 => (if bt316.2 = 0 then ((lapidaryref15_Same.f k bt316.1 l).bind fun t338 => (if t338 = true then (if bt324.2 = 11 then (if bt334.2 = 11 then (lapidarylaw15_ArcBack.j1 k b) else (some false)) else (some false)) else (some false))) else (some false))) else (none)))) else (none)) else (none)))) else (lapidarylaw15_ArcBack.j1 k b))) (fun k => ?_) (Ev.bind (encode_any h) (Ev.congr (fun k => ?_) (back_j1 b hb hbl)))
      · simp only [lapidarylaw15_ArcBack.j0]
        rw [if_neg (by decide)]
      · unfold encR
        rw [if_neg hc]
        dsimp only
        rw [if_neg hc]

theorem arcBack (l : List (List S48)) (h : okL l) (b : List Int) (hb : ∀ c ∈ b, 0 ≤ c ∧ c < 256) (cut more : Int) (hcut : 0 ≤ cut ∧ cut < 65536) (hmore : 0 ≤ more ∧ more < 256) : ∃ k, lapidarylaw15_ArcBack.f k l b cut more = some true := by
  have hgo : ∀ t, Ev (fun k => lapidarylaw15_long.f k l) t → (t = false → chkS l = 0 → l.length + tot l ≤ 200) → ∃ k, lapidarylaw15_ArcBack.f k l b cut more = some true := by
    intro t hlong ht
    refine Ev.rounds (Ev.bind (f := fun k t310 => (if t310 = true then (lapidarylaw15_ArcBack.j0 k l b cut more true) else (lapidarylaw15_ArcBack.j0 k l b cut more (decide ((b.length : Int) > 900))))) hlong ?_)
    cases t with
    | true => exact back_j0 l h b hb cut more hcut hmore true (fun h => nomatch h)
    | false => exact back_j0 l h b hb cut more hcut hmore _ (fun h => ⟨by have := of_decide_eq_false h; omega, ht rfl⟩)
  by_cases hc : chkS l = 0
  · have h1 := chk0 hc
    exact hgo _ (long_ev h1.1 h1.2.1) (fun h2 _ => by have := of_decide_eq_false h2; omega)
  · obtain ⟨t, hlong⟩ := long_any h.1
    exact hgo t hlong (fun _ h2 => absurd h2 hc)
end Go.Proofs.Ytmfeokapjmpjfaa.ArcW
