import Derived.Test.YtomknjmgcbbjlaaDoorWalkV
namespace Go.Proofs.YtomknjmgcbbjlaaDoor.PWlk
open Go Go.RowKit Go.Proofs.YtomknjmgcbbjlaaDoorW.PrintWords
noncomputable def walk_Canon.f (l0_0 : List (S46)) (l0_1 : List (S47)) : Option (List (S46) × List (S47) × Int) := some (if chk l0_0 l0_1 = 0 then (wk l0_1).V.map (fun v => l0_0.getD v.toNat z46) else [], if chk l0_0 l0_1 = 0 then (wk l0_1).T.map WW.to47 else [], chk l0_0 l0_1)
theorem walk_Canon.calls (A0_0 : Option Addr) (c0_0 : Nat) (l0_0 : List (S46)) (A0_1 : Option Addr) (c0_1 : Nat) (l0_1 : List (S47)) (r1 : List (S46)) (r2 : List (S47)) (r3 : Int) (w : World) (hr0_0 : Kd.C k46 w A0_0 l0_0.length l0_0) (hc0_0 : l0_0.length ≤ c0_0) (hr0_1 : Kd.C k47 w A0_1 l0_1.length l0_1) (hc0_1 : l0_1.length ≤ c0_1) (hG : Kd.C k47 w (some ⟨0, 0, none⟩) 1 [⟨1, 2, 0⟩]) (h : walk_Canon.f l0_0 l0_1 = some (r1, r2, r3)) :
    Calls Tryd.prog 27 #[.agg #[.slice A0_0 l0_0.length c0_0, .slice A0_1 l0_1.length c0_1]] w fun e w' => ∃ v0_ v1_ : Value, e = .returned (.tuple #[.agg #[v0_, v1_], .int .i64 r3]) ∧ Kd.R k46 46 w' w.heap.size (fun _ => True) v0_ r1 ∧ Kd.R k47 47 w' w.heap.size (fun _ => True) v1_ r2 ∧ Below w.heap.size w w' := by
  unfold walk_Canon.f at h
  injection h with h
  injection h with h1 h2
  injection h2 with h2 h3
  subst h1
  subst h2
  subst h3
  exact WW.canon27 l0_0 l0_1 _ (chk_told l0_0 l0_1) A0_0 c0_0 A0_1 c0_1 w hr0_0 hc0_0 hr0_1 hc0_1 hG
end Go.Proofs.YtomknjmgcbbjlaaDoor.PWlk
