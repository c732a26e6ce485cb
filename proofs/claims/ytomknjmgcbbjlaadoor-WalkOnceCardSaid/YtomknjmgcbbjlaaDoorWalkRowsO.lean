import Derived.Test.YtomknjmgcbbjlaaDoorOpens2
import Derived.Test.YtomknjmgcbbjlaaDoorPWlkx0
import Derived.Test.YtomknjmgcbbjlaaDoorRows
import Derived.LaidMore
import Derived.MakeChecks
import Derived.Test.YtomknjmgcbbjlaaDoorWalkLawsO
namespace Go.Proofs.YtomknjmgcbbjlaaDoor.RW
open Go Go.RowKit Go.ChangeShapes Go.WideShapes Go.Proofs.YtomknjmgcbbjlaaDoor.Opens Go.Proofs.YtomknjmgcbbjlaaDoor.PWlk Go.Proofs.YtomknjmgcbbjlaaDoorW.PrintWords Go.Proofs.YtomknjmgcbbjlaaDoorW.PrintLast Go.Proofs.YtomknjmgcbbjlaaDoorW.PrintMore
set_option linter.unusedVariables false
def Rgood46 (p : S46) : Prop := (Lit.int .i64 p.f0).wf = true ∧ (Lit.int .i64 p.f1).wf = true ∧ (Lit.int .i64 p.f2).wf = true
def Rgood47 (p : S47) : Prop := (Lit.int .i64 p.f0).wf = true ∧ (Lit.int .i64 p.f1).wf = true ∧ (Lit.int .i64 p.f2).wf = true
section
variable {H : Type} {enc : TypeId × Value → H} {W : World} {base : Nat} {spare : Nat → Bool} {held : Bool}
theorem Rop46 : Opens.Op enc Tryd.prog W base spare held 46 k46 Rgood46 :=
  op_struct3i (k0 := .i64) (k1 := .i64) (k2 := .i64) Tryd.underlying46 (by kernel_rfl) rfl rfl rfl (by kernel_rfl) (by kernel_rfl) (by kernel_rfl) Tryd.underlying3 Tryd.underlying3 Tryd.underlying3
    (fun a b c h0 h1 h2 => ⟨⟨a, b, c⟩, k46_mk _ _, h0, h1, h2⟩)
theorem Rop47 : Opens.Op enc Tryd.prog W base spare held 47 k47 Rgood47 :=
  op_array3i (k := .i64) Tryd.underlying47 (by kernel_rfl) (by kernel_rfl) Tryd.underlying3 (fun a b c h0 h1 h2 => ⟨⟨a, b, c⟩, k47_mk _ _, h0, h1, h2⟩)
def k25 : Kd (List S46 × List S47) := Kd.pair (Kd.slice 46 k46) (Kd.slice 47 k47)
def Rgood25 (z : List S46 × List S47) : Prop := (z.1.length * Tryd.prog.bytesOf 46 ≤ reachBytes ∧ ∀ p ∈ z.1, Rgood46 p) ∧ (z.2.length * Tryd.prog.bytesOf 47 ≤ reachBytes ∧ ∀ p ∈ z.2, Rgood47 p)
theorem Rop25 : Opens.Op enc Tryd.prog W base spare held 25 k25 Rgood25 :=
  op_struct2 Tryd.underlying25 (by kernel_rfl) rfl rfl (by kernel_rfl) (by kernel_rfl) (op_slice Tryd.underlying22 (by kernel_rfl) Rop46) (op_slice Tryd.underlying23 (by kernel_rfl) Rop47)
end
theorem mesh_open {W : World} {z : List S46 × List S47} {cs : Array Value} (h : k25.K W z cs.toList) : ∃ A0 c0 A1 c1, cs = #[.slice A0 z.1.length c0, .slice A1 z.2.length c1] ∧ z.1.length ≤ c0 ∧ z.2.length ≤ c1 ∧ Kd.C k46 W A0 z.1.length z.1 ∧ Kd.C k47 W A1 z.2.length z.2 := by
  obtain ⟨a, b, he, ⟨A0, c0, rfl, h0, h1⟩, ⟨A1, c1, rfl, h2, h3⟩⟩ := h
  refine ⟨A0, c0, A1, c1, ?_, h0, h2, h1, h3⟩
  apply Array.ext'
  rw [he]
  rfl
def laidL {H : Type} : List (String × DataW H) := [("lapidary/mesh.next", Rows.laid_lapidary_mesh_next)]
theorem next_met {W : World} (h : laidMetH Tryd.prog laidL W) : Kd.C k47 W (some ⟨0, 0, none⟩) 1 [⟨1, 2, 0⟩] := by
  rw [Go.MakeChecks.laidMetH_plain Tryd.prog laidL W (by kernel_rfl)] at h
  obtain ⟨ps, ⟨g, t, cs, fuel, p, q, hg, ht, hv, htr, _, hps⟩, _, hrow⟩ := h
  have hg0 : Tryd.prog.globalNamed "lapidary/mesh.next" = some 0 := by kernel_rfl
  have ht0 : (Tryd.prog.globals[0]?).map (·.type) = some 47 := by kernel_rfl
  obtain rfl : g = 0 := by rw [hg0] at hg; exact (Option.some.inj hg).symm
  obtain rfl : t = 47 := by rw [ht0] at ht; exact (Option.some.inj ht).symm
  have hl : cs.toList.length = 3 := array3_len Tryd.underlying47 (by kernel_rfl) htr
  obtain ⟨l⟩ := cs
  match l, hl with
  | [a, b, c], _ =>
    obtain ⟨y0, y1, y2, n, he, h0, h1, h2⟩ := trod_array3 Tryd.underlying47 (by kernel_rfl) htr
    obtain ⟨a', e0, e0b, _⟩ := DataW.trod_int Tryd.underlying3 h0
    obtain ⟨b', e1, e1b, _⟩ := DataW.trod_int Tryd.underlying3 h1
    obtain ⟨c', e2, e2b, _⟩ := DataW.trod_int Tryd.underlying3 h2
    simp at e0 e1 e2
    subst e0; subst e1; subst e2; subst e0b; subst e1b; subst e2b
    simp [Rows.laid_lapidary_mesh_next] at he
    obtain ⟨⟨rfl, rfl, rfl⟩, _⟩ := he
    have hb : W.var? Tryd.prog "lapidary/mesh.next" = some #[.int .i64 1, .int .i64 2, .int .i64 0] := hv
    unfold World.var? at hb
    rw [hg0, Option.bind_some] at hb
    obtain ⟨⟨cc, tt, hh⟩, _⟩ := hrow 0 0 (by rw [hps]; refine List.mem_append_left _ (List.mem_append_left _ ?_); simp [MemPlace.row])
    rw [hh] at hb
    injection hb with hb
    subst hb
    have hC : ∀ i : Nat, W.cell? ⟨0, i, none⟩ = (#[Value.int .i64 1, Value.int .i64 2, Value.int .i64 0])[i]? := fun i => cell_of_row W 0 i _ tt (0, 0) hh
    refine ⟨rfl, by decide, fun _ => ⟨⟨0, 0, none⟩, rfl, ?_⟩⟩
    intro j p hj
    match j, hj with
    | 0, hj =>
      injection hj with hj
      subst hj
      refine ⟨[.int .i64 1, .int .i64 2, .int .i64 0], rfl, k47_mk _ _, fun i u hi => ?_⟩
      rw [Addr.add_lit]
      rw [Nat.zero_add, Nat.zero_mul, Nat.zero_add, hC]
      rw [← hi]; simp
end Go.Proofs.YtomknjmgcbbjlaaDoor.RW
namespace Go.Proofs.YtomknjmgcbbjlaaDoor.RW
open Go Go.RowKit Go.Proofs.YtomknjmgcbbjlaaDoor.PWlk Go.Proofs.YtomknjmgcbbjlaaDoorW.PrintWords
set_option linter.unusedVariables false
theorem walkOnce_walk (W : World) (z : List S46 × List S47) (cs : Array Value) (hK : k25.K W z cs.toList) (hg : Rgood25 z)
    (hG : Kd.C k47 W (some ⟨0, 0, none⟩) 1 [⟨1, 2, 0⟩]) : Calls Tryd.prog 7 #[.agg cs] W fun e W' => e = .returned (.bool true) ∧ Below W.heap.size W W' := by
  obtain ⟨A0, c0, A1, c1, rfl, h0, h1, C0, C1⟩ := mesh_open hK
  obtain ⟨k, hk⟩ := WL.walkOnce z.1 z.2
  exact lapidarylaw11_WalkOnce.calls k A0 c0 z.1 A1 c1 z.2 true W C0 h0 C1 h1 hG rfl hk
end Go.Proofs.YtomknjmgcbbjlaaDoor.RW
