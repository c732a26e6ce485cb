import Derived.Test.YtckemiefcdpofaaDoorEdgesP
import Derived.Test.YtckemiefcdpofaaDoorCheckStub
namespace Go.Proofs.YtckemiefcdpofaaDoor.KN
open Go Go.RowKit Go.Sort Go.Proofs.YtckemiefcdpofaaDoor.OR Go.Proofs.YtckemiefcdpofaaDoor.Mem Go.Proofs.YtckemiefcdpofaaDoor.PMsr Go.Proofs.YtckemiefcdpofaaDoor.ED Go.Proofs.YtckemiefcdpofaaDoorW.PrintWords Go.Proofs.YtckemiefcdpofaaDoorW.PrintLast Go.Proofs.YtckemiefcdpofaaDoorW.PrintMore
open Go.Proofs.YtckemiefcdpofaaDoor.MM (edgesU Gl)
set_option linter.unusedVariables false
set_option linter.unnecessarySimpa false
set_option linter.unusedSimpArgs false
set_option maxRecDepth 100000
def two55 : List S55 := [⟨0, 0, 0⟩, ⟨1, 0, 0⟩, ⟨0, 1, 0⟩, ⟨1, 1, 0⟩]
def two36 : List S36 := [⟨0, 1, 2⟩, ⟨2, 1, 3⟩]
theorem told_two : MR.Told two55 two36 0 := MR.check_told (k := 100) (by kernel_rfl)
theorem told_one : MR.Told [⟨0, 0, 0⟩] [] 81 := MR.check_told (k := 100) (by kernel_rfl)
theorem edges_two : edgesOf two36 = [(0, 1), (0, 2), (1, 2), (1, 3), (2, 3)] := by
  refine EP.edgesOf_eq ?_ ?_
  · unfold EP.Up EP.lt
    decide
  · intro x
    have h1 : raw two36 = [(0, 1), (1, 2), (0, 2), (1, 2), (1, 3), (2, 3)] := by decide
    rw [h1]
    simp only [List.mem_cons, List.not_mem_nil, or_false]
    grind
theorem border_two {L : List (Int × Int)} (h : Bord (MM.datE (edgesU two36 two36.length)) (fun _ => false) L) : (sorted L).length = 4 := by
  rw [EP.border_eq told_two h (l := [(0, 1), (1, 3), (2, 0), (3, 2)])]
  · rfl
  · unfold EP.Up EP.lt
    decide
  · intro x
    have h1 : (edgesU two36 two36.length).map (·.1) = [(0, 1), (1, 2), (2, 0), (2, 1), (1, 3), (3, 2)] := by decide
    rw [h1]
    obtain ⟨a, b⟩ := x
    simp only [List.mem_cons, List.not_mem_nil, or_false, Prod.mk.injEq]
    grind
theorem one_row (w : World) : Kd.C k55 (w.alloc (.cells #[.int .i64 0, .int .i64 0, .int .i64 0] 55 (0, 0))) (some ⟨w.heap.size, 0, none⟩) 1 [⟨0, 0, 0⟩] := by
  have hB := Blk.here w 55 #[.int .i64 0, .int .i64 0, .int .i64 0]
  refine ⟨rfl, by decide, fun _ => ⟨_, rfl, fun j p hp => ?_⟩⟩
  match j, hp with
  | 0, hp =>
    have : (⟨0, 0, 0⟩ : S55) = p := Option.some.inj hp
    subst this
    refine ⟨[.int .i64 0, .int .i64 0, .int .i64 0], rfl, k55_mk _ ⟨0, 0, 0⟩, fun i u hu => ?_⟩
    rw [Addr.add_lit]
    match i, hu with
    | 0, hu => cases hu; exact hB.cell 0
    | 1, hu => cases hu; exact hB.cell 1
    | 2, hu => cases hu; exact hB.cell 2
    | i + 3, hu => simp at hu
  | j + 1, hp => simp at hp
theorem known13 (w : World) (hG : Gl w) : Calls Tryd.prog 13 #[] w fun e w' => e = .returned (.bool true) ∧ Below w.heap.size w w' := by
  have h1 := Lib.hid (fun w => lapidarylaw10_two.calls two55 two36 w rfl)
  have hb0 := Below.refl w.heap.size w
  replace hG := Lib.hid hG
  go_enter Tryd.func13, Tryd.ntmps13
  go_wp2_with fail
  refine (h1.out _).mono ?_
  rintro e w2 ⟨v0, v1, rfl, hR0, hR1, hb1⟩
  obtain ⟨A0, c0, rfl, hc0, hC0⟩ := Kd.R_reads hR0
  obtain ⟨A1, c1, rfl, hc1, hC1⟩ := Kd.R_reads hR1
  clear hR0 hR1
  have hE := Lib.hid (edges16 two55 two36 0 told_two A0 c0 A1 c1 w2 hC0 hc0 hC1 hc1 (hG.out.below hb1))
  clear hC0 hC1 hc0 hc1
  go_wp2_with fail
  refine hE.out.mono ?_
  rintro e w3 ⟨v, rfl, _, hv1, hb2⟩
  have hR3 := hv1 trivial
  rw [edges_two] at hR3
  obtain ⟨A3, c3, rfl⟩ := Kd.R_slice hR3
  have hbw3 := hb1.trans (hb2.mono hb1.size)
  clear hE hv1 hR3 hb2 hb1
  go_wp2_with fail
  refine (h1.out _).mono ?_
  rintro e w4 ⟨v0, v1, rfl, hR0, hR1, hb1⟩
  obtain ⟨A0, c0, rfl, hc0, hC0⟩ := Kd.R_reads hR0
  obtain ⟨A1, c1, rfl, hc1, hC1⟩ := Kd.R_reads hR1
  clear hR0 hR1
  have hbw4 := hbw3.trans (hb1.mono hbw3.size)
  have hE := Lib.hid (border17 two55 two36 told_two A0 c0 A1 c1 w4 hC0 hc0 hC1 hc1 (hG.out.below hbw4))
  clear hC0 hC1 hc0 hc1 hbw3 hb1
  go_wp2_with fail
  refine hE.out.mono ?_
  rintro e w5 ⟨v, L, rfl, hR5, hB, hb2⟩
  obtain ⟨A5, c5, rfl⟩ := Kd.R_slice hR5
  rw [border_two hB]
  have hbw5 := hbw4.trans (hb2.mono hbw4.size)
  clear hE hR5 hB hb2 hbw4
  go_wp2_with fail
  refine (h1.out _).mono ?_
  rintro e w6 ⟨v0, v1, rfl, hR0, hR1, hb1⟩
  obtain ⟨A0, c0, rfl, hc0, hC0⟩ := Kd.R_reads hR0
  obtain ⟨A1, c1, rfl, hc1, hC1⟩ := Kd.R_reads hR1
  clear hR0 hR1
  have hbw6 := hbw5.trans (hb1.mono hbw5.size)
  have hE := euler20 two55 two36 0 told_two A0 c0 A1 c1 w6 hC0 hc0 hC1 hc1 (hG.out.below hbw6)
  rw [show (if (0 : Int) = 0 then (two55.length : Int) - (edgesOf two36).length + two36.length else 0) = 1 by rw [edges_two]; decide] at hE
  replace hE := Lib.hid hE
  clear hC0 hC1 hc0 hc1 hbw5 hb1
  go_wp2_with fail
  refine hE.out.mono ?_
  rintro e w7 ⟨rfl, hb2⟩
  have hbw7 := hbw6.trans (hb2.mono hbw6.size)
  clear hE hb2 hbw6
  have hbw8 := hbw7.alloc hbw7.size (.cells #[.int .i64 0, .int .i64 0, .int .i64 0] 55 (0, 0))
  have hE := Lib.hid (MC.check28 [⟨0, 0, 0⟩] [] 81 told_one (some ⟨w7.heap.size, 0, none⟩) 1 none 0 (w7.alloc (.cells #[.int .i64 0, .int .i64 0, .int .i64 0] 55 (0, 0))) (one_row w7) (by decide) ⟨rfl, by decide, fun h => by simp at h⟩ (by decide) (hG.out.below hbw8))
  go_wp2_with fail
  refine hE.out.mono ?_
  rintro e w9 ⟨rfl, hb9⟩
  go_wp2_with fail
  go_ret
  exact ⟨rfl, hbw8.trans (hb9.mono hbw8.size)⟩
end Go.Proofs.YtckemiefcdpofaaDoor.KN
namespace Go.Proofs.YtckemiefcdpofaaDoor.PMsr
open Go Go.RowKit Go.Proofs.YtckemiefcdpofaaDoorW.PrintWords Go.Proofs.YtckemiefcdpofaaDoorW.PrintLast Go.Proofs.YtckemiefcdpofaaDoorW.PrintMore
def lapidarylaw10_known.f : Option Bool := some true
theorem lapidarylaw10_known.calls (r : Bool) (w : World) (hG : Kd.C k36 w (some ⟨0, 0, none⟩) 1 [⟨1, 2, 0⟩]) (h : lapidarylaw10_known.f = some r) :
    Calls Tryd.prog 13 #[] w fun e w' => e = .returned (.bool r) ∧ Below w.heap.size w w' := by
  have : r = true := (Option.some.inj h).symm
  subst this
  exact KN.known13 w hG
end Go.Proofs.YtckemiefcdpofaaDoor.PMsr
