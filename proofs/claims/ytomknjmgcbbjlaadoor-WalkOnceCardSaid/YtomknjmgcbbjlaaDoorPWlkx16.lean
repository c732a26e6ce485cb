import Derived.Test.YtomknjmgcbbjlaaDoorPWlkx0
import Derived.Test.YtomknjmgcbbjlaaDoorStepsStub
import Derived.Test.YtomknjmgcbbjlaaDoorPWlkx4
import Derived.Test.YtomknjmgcbbjlaaDoorPWlkx5
import Derived.Test.YtomknjmgcbbjlaaDoorPWlkx5k
import Derived.Test.YtomknjmgcbbjlaaDoorPWlkx15
import Derived.Test.YtomknjmgcbbjlaaDoorPWlkx13
import Derived.Test.YtomknjmgcbbjlaaDoorCanonStub
namespace Go.Proofs.YtomknjmgcbbjlaaDoor.PWlk
open Go Go.RowKit Go.Proofs.YtomknjmgcbbjlaaDoorW.PrintWords Go.Proofs.YtomknjmgcbbjlaaDoorW.PrintLast Go.Proofs.YtomknjmgcbbjlaaDoorW.PrintMore
attribute [local go_sem] max2_int min2_int max_two min_two max_three min_three max_four min_four
set_option linter.unusedVariables false
set_option maxRecDepth 100000
set_option linter.unusedSimpArgs false
attribute [local go_sem high] eqA46
attribute [local go_sem] idx47_0_0 idx47_1_0 idx47_2_0 idx107_0_0 idx107_1_0
theorem tm1_x16 : (wrap64 1).tmod 3 = 1 := by first | rfl | decide | (unfold wrap64; rfl)
theorem tm2_x16 : (wrap64 2).tmod 3 = 2 := by first | rfl | decide | (unfold wrap64; rfl)
theorem tm3_x16 : (wrap64 3).tmod 3 = 0 := by first | rfl | decide | (unfold wrap64; rfl)
attribute [local go_sem] tm1_x16 tm2_x16 tm3_x16
def flx16 (k n : Nat) : Array Bool := (List.replicate k true ++ List.replicate n false).toArray
theorem sAx16 {α : Type _} {l : List α} {i : Nat} {a : α} : l.toArray.setIfInBounds i a = (l.set i a).toArray := List.setIfInBounds_toArray ..
theorem sBx16 {α : Type _} {x y : α} {l : List α} : (x :: l).set 0 y = y :: l := rfl
theorem sCx16 {α : Type _} {x y : α} {l : List α} {i : Nat} : (x :: l).set (i + 1) y = x :: l.set i y := rfl
theorem aMx16 {p : Prop} (h : p) : Aside0 p := ⟨h⟩
mutual
noncomputable def lapidarylaw11_WalkOnce.j0 : Nat → List Int → List Int → Bool → List (S46) → List (S47) → List (S46) → List (S47) → Option (Bool)
  | 0, _, _, _, _, _, _, _ => none
  | k + 1, x9, x10, x101, x523000, x523001, x533000, x533001 => if x101 = true then (some false) else (if 0 ≤ (x523000.length : Int) then (if ((x523000.length : Int) : Int).toNat ≤ 281474976710656 then (lapidarylaw11_WalkOnce.l0 k x9 x10 (List.replicate ((x523000.length : Int) : Int).toNat false) 0 x523000 x523001 x533000 x533001) else (none)) else (none))
noncomputable def lapidarylaw11_WalkOnce.l0 : Nat → List Int → List Int → List Bool → Int → List (S46) → List (S47) → List (S46) → List (S47) → Option (Bool)
  | 0, _, _, _, _, _, _, _, _ => none
  | k + 1, x9, x10, x12, x13, x523000, x523001, x533000, x533001 => if x13 < (x9.length : Int) then (if 0 ≤ x13 then (if (rd x9 x13) < 0 then (some false) else (if (rd x9 x13) ≥ (x523000.length : Int) then (some false) else (if 0 ≤ (rd x9 x13) then (if (rd x9 x13) < (x12.length : Int) then (if rdOf false x12 (rd x9 x13) = true then (some false) else (if x13 < (x533000.length : Int) then (if (rd x9 x13) < (x523000.length : Int) then (if (!(((rd_T46 x533000 x13).f0) == ((rd_T46 x523000 (rd x9 x13)).f0)) || (!(((rd_T46 x533000 x13).f1) == ((rd_T46 x523000 (rd x9 x13)).f1)) || (!(((rd_T46 x533000 x13).f2) == ((rd_T46 x523000 (rd x9 x13)).f2))))) = true then (some false) else (lapidarylaw11_WalkOnce.l0 k x9 x10 (x12.set ((rd x9 x13) : Int).toNat true) (wrap64 (x13 + 1)) x523000 x523001 x533000 x533001)) else (none)) else (none))) else (none)) else (none)))) else (none)) else (if 0 ≤ (x523001.length : Int) then (if ((x523001.length : Int) : Int).toNat ≤ 281474976710656 then (lapidarylaw11_WalkOnce.l1 k x9 x10 (List.replicate ((x523001.length : Int) : Int).toNat false) 0 x523000 x523001 x533000 x533001) else (none)) else (none))
noncomputable def lapidarylaw11_WalkOnce.l1 : Nat → List Int → List Int → List Bool → Int → List (S46) → List (S47) → List (S46) → List (S47) → Option (Bool)
  | 0, _, _, _, _, _, _, _, _ => none
  | k + 1, x9, x10, x14, x15, x523000, x523001, x533000, x533001 => if x15 < (x10.length : Int) then (if 0 ≤ x15 then (if (rd x10 x15) < 0 then (lapidarylaw11_WalkOnce.j3 k x9 x10 x14 x15 true x523000 x523001 x533000 x533001) else (if (rd x10 x15) ≥ (x523001.length : Int) then (lapidarylaw11_WalkOnce.j3 k x9 x10 x14 x15 true x523000 x523001 x533000 x533001) else (if 0 ≤ (rd x10 x15) then (if (rd x10 x15) < (x14.length : Int) then (lapidarylaw11_WalkOnce.j3 k x9 x10 x14 x15 (rdOf false x14 (rd x10 x15)) x523000 x523001 x533000 x533001) else (none)) else (none)))) else (none)) else ((lapidarylaw11_known.f k).bind fun t567 => (some t567))
noncomputable def lapidarylaw11_WalkOnce.j3 : Nat → List Int → List Int → List Bool → Int → Bool → List (S46) → List (S47) → List (S46) → List (S47) → Option (Bool)
  | 0, _, _, _, _, _, _, _, _, _ => none
  | k + 1, x9, x10, x14, x15, x191, x523000, x523001, x533000, x533001 => if x191 = true then (some false) else (if 0 ≤ x15 then (if x15 < (x10.length : Int) then (if 0 ≤ (rd x10 x15) then (if (rd x10 x15) < (x14.length : Int) then (if x15 < (x533001.length : Int) then (if (rd x10 x15) < (x523001.length : Int) then (if 0 ≤ ((rd_T47 x533001 x15).f0) then (if ((rd_T47 x533001 x15).f0) < (x9.length : Int) then (if 0 ≤ ((rd_T47 x533001 x15).f1) then (if ((rd_T47 x533001 x15).f1) < (x9.length : Int) then ((lapidaryref10_Has.f k (([(⟨(rd_T47 x523001 (rd x10 x15)).f0, (rd_T47 x523001 (rd x10 x15)).f1, (rd_T47 x523001 (rd x10 x15)).f2⟩ : S47)] : List (S47))) (rd x9 ((rd_T47 x533001 x15).f0)) (rd x9 ((rd_T47 x533001 x15).f1))).bind fun t583 => (if t583 = 0 then (if 0 ≤ ((rd_T47 x533001 x15).f2) then (if ((rd_T47 x533001 x15).f2) < (x9.length : Int) then ((lapidaryref10_Has.f k (([(⟨(rd_T47 x523001 (rd x10 x15)).f0, (rd_T47 x523001 (rd x10 x15)).f1, (rd_T47 x523001 (rd x10 x15)).f2⟩ : S47)] : List (S47))) (rd x9 ((rd_T47 x533001 x15).f1)) (rd x9 ((rd_T47 x533001 x15).f2))).bind fun t591 => (if t591 = 0 then (lapidarylaw11_WalkOnce.l1 k x9 x10 (x14.set ((rd x10 x15) : Int).toNat true) (wrap64 (x15 + 1)) x523000 x523001 x533000 x533001) else (some false))) else (none)) else (none)) else (some false))) else (none)) else (none)) else (none)) else (none)) else (none)) else (none)) else (none)) else (none)) else (none)) else (none))
end
noncomputable def lapidarylaw11_WalkOnce.f (k : Nat) (l0_0 : List (S46)) (l0_1 : List (S47)) : Option (Bool) := (lapidarylaw11_long.f l0_0 l0_1).bind fun t523 => (if t523 = true then ((lapidarylaw11_known.f k).bind fun t524 => (some t524)) else ((walk_Canon.f l0_0 l0_1).bind fun bt525 => (if bt525.2.2 = 0 then ((walk_Steps.f l0_0 l0_1).bind fun bt535 => ((walk_Steps.f bt525.1 bt525.2.1).bind fun bt539 => ((walk_Order.f l0_0 l0_1).bind fun bt543 => (if bt539.2 = 0 then ((lapidaryref11_SameSteps.f k bt535.1 bt539.1).bind fun t550 => (if t550 = true then ((walk_Is.f k bt525.1 bt525.2.1).bind fun t551 => (if t551 = true then (if (bt543.1.length : Int) = (l0_0.length : Int) then (if (bt543.2.1.length : Int) = (l0_1.length : Int) then (if (bt525.2.1.length : Int) = (l0_1.length : Int) then (lapidarylaw11_WalkOnce.j0 k bt543.1 bt543.2.1 ((bt525.1.length : Int) != (l0_0.length : Int)) l0_0 l0_1 bt525.1 bt525.2.1) else (lapidarylaw11_WalkOnce.j0 k bt543.1 bt543.2.1 true l0_0 l0_1 bt525.1 bt525.2.1)) else (lapidarylaw11_WalkOnce.j0 k bt543.1 bt543.2.1 true l0_0 l0_1 bt525.1 bt525.2.1)) else (lapidarylaw11_WalkOnce.j0 k bt543.1 bt543.2.1 true l0_0 l0_1 bt525.1 bt525.2.1)) else (lapidarylaw11_WalkOnce.j0 k bt543.1 bt543.2.1 true l0_0 l0_1 bt525.1 bt525.2.1))) else (lapidarylaw11_WalkOnce.j0 k bt543.1 bt543.2.1 true l0_0 l0_1 bt525.1 bt525.2.1))) else (lapidarylaw11_WalkOnce.j0 k bt543.1 bt543.2.1 true l0_0 l0_1 bt525.1 bt525.2.1))))) else (if (bt525.2.1.length : Int) = 0 then ((walk_Is.f k l0_0 l0_1).bind fun t533 => (if t533 = true then (some false) else ((lapidarylaw11_known.f k).bind fun t534 => (some t534)))) else (some false)))))
theorem j3no (k : Nat) (a b : List Int) (c : List Bool) (d : Int) (P : List S46) (T : List S47) (Q : List S46) (U : List S47) : ¬ lapidarylaw11_WalkOnce.j3 k a b c d true P T Q U = some true := by
  cases k with
  | zero => simp [lapidarylaw11_WalkOnce.j3]
  | succ k => rw [lapidarylaw11_WalkOnce.j3, if_pos rfl]; simp
def lapidarylaw11_WalkOnce.T15 : Bool × List (List Nat × List Nat) := (true, [([], []), ([], []), ([0, 1], [0, 1]), ([2], [2]), ([3], [3]), ([4], [4]), ([5], [5]), ([5], [5]), ([6, 7, 5], [5, 6, 7]), ([8, 5], [5, 8]), ([5], [5]), ([10, 5], [5, 10]), ([11, 5], [5, 11]), ([9, 12, 5], [5, 9, 12]), ([5, 13], [5, 13]), ([14, 5], [14]), ([15], [15]), ([15], [15]), ([15], [15]), ([17, 18, 15], [15, 17, 18]), ([19, 15], [15, 19]), ([16, 20, 15], [15, 16, 20]), ([21, 15], [15, 21]), ([15, 22], [15, 22]), ([23, 15], [23]), ([24], [24]), ([25, 24], [24, 25]), ([24], [24]), ([26, 27, 24], [24, 26, 27]), ([28, 24], [24, 28]), ([24], [24]), ([30, 24], [24, 30]), ([24], [24]), ([24], [24]), ([32, 33, 24], [24, 32, 33]), ([34, 24], [24, 34]), ([31, 35, 24], [24, 31, 35]), ([36, 24], [24, 36]), ([29, 37, 24], [24, 29, 37]), ([24, 38], [24, 38])])
def lapidarylaw11_WalkOnce.B15 : List Nat := [0, 0, 3, 7, 15, 31, 63, 63, 255, 511, 63, 1087, 3135, 8191, 16383, 32767, 65535, 65535, 65535, 458751, 983039, 2097151, 4194303, 8388607, 16777215, 33554431, 67108863, 33554431, 268435455, 536870911, 33554431, 1107296255, 33554431, 33554431, 12918456319, 30098325503, 67679289343, 136398766079, 274877906943, 549755813887]
theorem lapidarylaw11_WalkOnce.tab15 : rtab .any (opsOf Tryd.f7 15) = lapidarylaw11_WalkOnce.T15 := by kernel_rfl
theorem lapidarylaw11_WalkOnce.bits15 : waitsOk lapidarylaw11_WalkOnce.T15.2 lapidarylaw11_WalkOnce.B15 = true := by kernel_rfl
def lapidarylaw11_WalkOnce.T22 : Bool × List (List Nat × List Nat) := (true, [([], []), ([], []), ([0, 1], [0, 1]), ([2], [2]), ([3], [3]), ([4], [4]), ([5], [5]), ([5], [5]), ([6, 7, 5], [5, 6, 7]), ([8, 5], [5, 8]), ([5], [5]), ([10, 5], [5, 10]), ([11, 5], [5, 11]), ([9, 12, 5], [5, 9, 12]), ([5, 13], [5, 13]), ([14, 5], [14]), ([15], [15]), ([15], [15]), ([15], [15]), ([17, 18, 15], [15, 17, 18]), ([19, 15], [15, 19]), ([16, 20, 15], [15, 16, 20]), ([21, 15], [15, 21]), ([15, 22], [15, 22])])
def lapidarylaw11_WalkOnce.B22 : List Nat := [0, 0, 3, 7, 15, 31, 63, 63, 255, 511, 63, 1087, 3135, 8191, 16383, 32767, 65535, 65535, 65535, 458751, 983039, 2097151, 4194303, 8388607]
theorem lapidarylaw11_WalkOnce.tab22 : rtab .any (opsOf Tryd.f7 22) = lapidarylaw11_WalkOnce.T22 := by kernel_rfl
theorem lapidarylaw11_WalkOnce.bits22 : waitsOk lapidarylaw11_WalkOnce.T22.2 lapidarylaw11_WalkOnce.B22 = true := by kernel_rfl
def lapidarylaw11_WalkOnce.T26 : Bool × List (List Nat × List Nat) := (true, [([], []), ([0], [0]), ([], []), ([], []), ([2, 3], [2, 3]), ([4], [4]), ([1, 5], [1, 5]), ([6], [6]), ([7], [7]), ([], []), ([], []), ([10], [10]), ([9, 11], [9, 11]), ([12], [12]), ([], []), ([], []), ([15], [15]), ([14, 16], [14, 16]), ([17], [17]), ([8, 13, 18], [8, 13, 18]), ([19], [19]), ([20, 19], [20]), ([21], [21]), ([22, 21], [21, 22]), ([21], [21]), ([21], [21]), ([24, 25, 21], [21, 24, 25]), ([26, 21], [21, 26]), ([23, 27, 21], [21, 23, 27]), ([28, 21], [21, 28]), ([29, 21], [21, 29]), ([21], [21]), ([21], [21]), ([32, 21], [21, 32]), ([31, 33, 21], [21, 31, 33]), ([34, 21], [21, 34]), ([21], [21]), ([21], [21]), ([37, 21], [21, 37]), ([36, 38, 21], [21, 36, 38]), ([39, 21], [21, 39]), ([30, 35, 40, 21, 21], [21, 30, 35, 40]), ([41, 21], [21, 41]), ([21, 42], [21, 42])])
def lapidarylaw11_WalkOnce.B26 : List Nat := [0, 1, 0, 0, 12, 28, 63, 127, 255, 0, 0, 1024, 3584, 7680, 0, 0, 32768, 114688, 245760, 524287, 1048575, 2097151, 4194303, 8388607, 4194303, 4194303, 54525951, 121634815, 268435455, 536870911, 1073741823, 4194303, 4194303, 4299161599, 15036579839, 32216449023, 4194303, 4194303, 137443147775, 481040531455, 1030796345343, 2199023255551, 4398046511103, 8796093022207]
theorem lapidarylaw11_WalkOnce.tab26 : rtab .any (opsOf Tryd.f7 26) = lapidarylaw11_WalkOnce.T26 := by kernel_rfl
theorem lapidarylaw11_WalkOnce.bits26 : waitsOk lapidarylaw11_WalkOnce.T26.2 lapidarylaw11_WalkOnce.B26 = true := by kernel_rfl
set_option maxHeartbeats 8000000 in
set_option maxRecDepth 100000 in
theorem lapidarylaw11_WalkOnce.calls (k : Nat) (A0_0 : Option Addr) (c0_0 : Nat) (l0_0 : List (S46)) (A0_1 : Option Addr) (c0_1 : Nat) (l0_1 : List (S47)) (r : Bool) (w : World) (hr0_0 : Kd.C k46 w A0_0 l0_0.length l0_0) (hc0_0 : l0_0.length ≤ c0_0) (hr0_1 : Kd.C k47 w A0_1 l0_1.length l0_1) (hc0_1 : l0_1.length ≤ c0_1) (hG : Kd.C k47 w (some ⟨0, 0, none⟩) 1 [⟨1, 2, 0⟩]) (hrt : r = true) (h : lapidarylaw11_WalkOnce.f k l0_0 l0_1 = some r) :
  Calls Tryd.prog 7 #[.agg #[.slice A0_0 l0_0.length c0_0,.slice A0_1 l0_1.length c0_1]] w fun e w' => e = .returned (.bool r) ∧ Below w.heap.size w w':=by
 have HRT:=aMx16 hrt
 clear hrt
 have HG:=aMx16 hG
 clear hG
 have hu25:=Tryd.underlying25
 have hu46:=Tryd.underlying46
 have hu47:=Tryd.underlying47
 have HR0_0:=aMx16 hr0_0
 have HC0_0:=aMx16 hc0_0
 clear hr0_0 hc0_0
 have HR0_1:=aMx16 hr0_1
 have HC0_1:=aMx16 hc0_1
 clear hr0_1 hc0_1
 have HB:=aMx16 (Below.refl w.heap.size w)
 have H : ((lapidarylaw11_long.f l0_0 l0_1).bind fun t523 => (if t523 = true then ((lapidarylaw11_known.f k).bind fun t524 => (some t524)) else ((walk_Canon.f l0_0 l0_1).bind fun bt525 => (if bt525.2.2 = 0 then ((walk_Steps.f l0_0 l0_1).bind fun bt535 => ((walk_Steps.f bt525.1 bt525.2.1).bind fun bt539 => ((walk_Order.f l0_0 l0_1).bind fun bt543 => (if bt539.2 = 0 then ((lapidaryref11_SameSteps.f k bt535.1 bt539.1).bind fun t550 => (if t550 = true then ((walk_Is.f k bt525.1 bt525.2.1).bind fun t551 => (if t551 = true then (if (bt543.1.length : Int) = (l0_0.length : Int) then (if (bt543.2.1.length : Int) = (l0_1.length : Int) then (if (bt525.2.1.length : Int) = (l0_1.length : Int) then (lapidarylaw11_WalkOnce.j0 k bt543.1 bt543.2.1 ((bt525.1.length : Int) != (l0_0.length : Int)) l0_0 l0_1 bt525.1 bt525.2.1) else (lapidarylaw11_WalkOnce.j0 k bt543.1 bt543.2.1 true l0_0 l0_1 bt525.1 bt525.2.1)) else (lapidarylaw11_WalkOnce.j0 k bt543.1 bt543.2.1 true l0_0 l0_1 bt525.1 bt525.2.1)) else (lapidarylaw11_WalkOnce.j0 k bt543.1 bt543.2.1 true l0_0 l0_1 bt525.1 bt525.2.1)) else (lapidarylaw11_WalkOnce.j0 k bt543.1 bt543.2.1 true l0_0 l0_1 bt525.1 bt525.2.1))) else (lapidarylaw11_WalkOnce.j0 k bt543.1 bt543.2.1 true l0_0 l0_1 bt525.1 bt525.2.1))) else (lapidarylaw11_WalkOnce.j0 k bt543.1 bt543.2.1 true l0_0 l0_1 bt525.1 bt525.2.1))))) else (if (bt525.2.1.length : Int) = 0 then ((walk_Is.f k l0_0 l0_1).bind fun t533 => (if t533 = true then (some false) else ((lapidarylaw11_known.f k).bind fun t534 => (some t534)))) else (some false)))))) = some r:=h
 clear h
 replace H:=Option.bind_eq_some_iff.mp H
 obtain ⟨t523,A20,H⟩:=H
 replace H : (if t523 = true then ((lapidarylaw11_known.f k).bind fun t524 => (some t524)) else ((walk_Canon.f l0_0 l0_1).bind fun bt525 => (if bt525.2.2 = 0 then ((walk_Steps.f l0_0 l0_1).bind fun bt535 => ((walk_Steps.f bt525.1 bt525.2.1).bind fun bt539 => ((walk_Order.f l0_0 l0_1).bind fun bt543 => (if bt539.2 = 0 then ((lapidaryref11_SameSteps.f k bt535.1 bt539.1).bind fun t550 => (if t550 = true then ((walk_Is.f k bt525.1 bt525.2.1).bind fun t551 => (if t551 = true then (if (bt543.1.length : Int) = (l0_0.length : Int) then (if (bt543.2.1.length : Int) = (l0_1.length : Int) then (if (bt525.2.1.length : Int) = (l0_1.length : Int) then (lapidarylaw11_WalkOnce.j0 k bt543.1 bt543.2.1 ((bt525.1.length : Int) != (l0_0.length : Int)) l0_0 l0_1 bt525.1 bt525.2.1) else (lapidarylaw11_WalkOnce.j0 k bt543.1 bt543.2.1 true l0_0 l0_1 bt525.1 bt525.2.1)) else (lapidarylaw11_WalkOnce.j0 k bt543.1 bt543.2.1 true l0_0 l0_1 bt525.1 bt525.2.1)) else (lapidarylaw11_WalkOnce.j0 k bt543.1 bt543.2.1 true l0_0 l0_1 bt525.1 bt525.2.1)) else (lapidarylaw11_WalkOnce.j0 k bt543.1 bt543.2.1 true l0_0 l0_1 bt525.1 bt525.2.1))) else (lapidarylaw11_WalkOnce.j0 k bt543.1 bt543.2.1 true l0_0 l0_1 bt525.1 bt525.2.1))) else (lapidarylaw11_WalkOnce.j0 k bt543.1 bt543.2.1 true l0_0 l0_1 bt525.1 bt525.2.1))))) else (if (bt525.2.1.length : Int) = 0 then ((walk_Is.f k l0_0 l0_1).bind fun t533 => (if t533 = true then (some false) else ((lapidarylaw11_known.f k).bind fun t534 => (some t534)))) else (some false))))) = some r:=H
 have A2:=aMx16 A20
 clear A20
 by_cases c3 : t523 = true
 ·subst c3
  have H1 : ((lapidarylaw11_known.f k).bind fun t524 => (some t524)) = some r:=by rw [if_pos rfl] at H;exact H
  clear H
  have H:=H1
  clear H1
  replace H:=Option.bind_eq_some_iff.mp H
  obtain ⟨t524,A40,H⟩:=H
  replace H : (some t524) = some r:=H
  have A4:=aMx16 A40
  clear A40
  obtain rfl:=Option.some.inj H
  go_enter Tryd.func7,Tryd.ntmps7
  go_wp2_with (first|((with_reducible refine gate_dst (N:=1) rfl ?_);(try (refine gate_guard (by rfl) ?_;dsimp only));refine box_event ?hg (N:=1) ?hd (cs:=#[.slice A0_0 l0_0.length c0_0,.slice A0_1 l0_1.length c0_1]) (t:=25) ?hr ?_;(case hd => rfl);(case hg => rfl);(case hr => first|(go_simp;done)|(go_simp;rfl));intro gb522 hg w5 hbox hb;have n0_:=aMx16 (below_step (by repeat (with_reducible first|exact HB.out|apply below_alloc|apply pw_below_drewN|apply below_drew1)) hb);have n1_:=aMx16 (hbox);have n2_:=aMx16 ((by rw [hg];exact (below_size (by repeat (with_reducible first|exact HB.out|apply below_alloc|apply pw_below_drewN|apply below_drew1))) : w.heap.size ≤ gb522));have n3_:=aMx16 ((by rw [hg];exact (below_size (by repeat (with_reducible first|exact HB.out|apply below_alloc|apply pw_below_drewN|apply below_drew1))) : w.heap.size ≤ gb522));clear HB;have HB:=n0_;have BK522:=n1_;have GW522:=n2_;have GE522:=n3_;clear n0_ n1_ n2_ n3_;clear hb hbox hg;have hcz6_0 : w5.cell? ⟨gb522,0,none⟩ = some (.slice A0_0 l0_0.length c0_0):=(blk_cell BK522.out 0).trans rfl;have hcz6_1 : w5.cell? ⟨gb522,1,none⟩ = some (.slice A0_1 l0_1.length c0_1):=(blk_cell BK522.out 1).trans rfl;have hfz6_0:=blk_frozen BK522.out 0;have hfz6_1:=blk_frozen BK522.out 1)|((with_reducible refine gate_callee (f:=18) rfl ?_);refine goesL_ (some 18) rfl rfl Tryd.func18 (by kernel_rfl) rfl #[.agg #[.slice A0_0 l0_0.length c0_0,.slice A0_1 l0_1.length c0_1]] rfl (by (try simp only [List.map_toArray,List.map_cons,List.map_nil]);first|done|rfl|(simp only [List.length_drop,List.length_take];rfl)) ?_;(with_reducible refine (lapidarylaw11_long.calls _ _ l0_0 _ _ l0_1 true _ ?side1 ?side2 ?side3 ?side4 A2.out).mono ?_);(case side1 => repeat (first|exact (Kd.C_below HR0_0.out HB.out)|(with_reducible first|refine Kd.C_alloc ?_ _|refine Kd.C_drewN ?_ _|refine Kd.C_drew ?_)));(case side2 => exact HC0_0.out);(case side3 => repeat (first|exact (Kd.C_below HR0_1.out HB.out)|(with_reducible first|refine Kd.C_alloc ?_ _|refine Kd.C_drewN ?_ _|refine Kd.C_drew ?_)));(case side4 => exact HC0_1.out);rintro e w7 ⟨rfl,hb⟩;refine ⟨_,rfl,?_⟩;have n0_:=aMx16 (blk_below (g:=gb522) (o:=.cells #[.slice A0_0 l0_0.length c0_0,.slice A0_1 l0_1.length c0_1] 25 (0,0)) (by (with_reducible repeat (first|refine blk_drewN ?_ _|refine blk_drew ?_|refine blk_alloc ?_ _));exact BK522.out) hb);have n1_:=aMx16 (below_step (by repeat (first|(with_reducible first|exact HB.out|apply below_alloc|apply pw_below_drewN|apply below_drew1|refine below_set ?_ GE522.out)|exact HB.out)) hb);clear BK522;clear HB;have BK522:=n0_;have HB:=n1_;clear n0_ n1_;(try clear hb);(try clear hb2);(try clear hk);(try clear hi))|((with_reducible refine gate_callee (f:=19) rfl ?_);refine goesL_ (some 19) rfl rfl Tryd.func19 (by kernel_rfl) rfl #[] rfl (by (try simp only [List.map_toArray,List.map_cons,List.map_nil]);first|done|rfl|(simp only [List.length_drop,List.length_take];rfl)) ?_;(with_reducible refine (lapidarylaw11_known.calls k  t524 _ ?sideG A4.out).mono ?_);(case sideG => exact Kd.C_below HG.out (by repeat (first|(with_reducible first|exact HB.out|apply below_alloc|apply pw_below_drewN|apply below_drew1|refine below_set ?_ GE522.out)|exact HB.out)));rintro e w8 ⟨rfl,hb⟩;refine ⟨_,rfl,?_⟩;have n0_:=aMx16 (blk_below (g:=gb522) (o:=.cells #[.slice A0_0 l0_0.length c0_0,.slice A0_1 l0_1.length c0_1] 25 (0,0)) (by (with_reducible repeat (first|refine blk_drewN ?_ _|refine blk_drew ?_|refine blk_alloc ?_ _));exact BK522.out) hb);have n1_:=aMx16 (below_step (by repeat (first|(with_reducible first|exact HB.out|apply below_alloc|apply pw_below_drewN|apply below_drew1|refine below_set ?_ GE522.out)|exact HB.out)) hb);clear BK522;clear HB;have BK522:=n0_;have HB:=n1_;clear n0_ n1_;(try clear hb);(try clear hb2);(try clear hk);(try clear hi)))
  go_ret
  exact ⟨by first | rfl | (simp [errW_none,errW_some]<;>rfl) | (simp [*,errW_none,errW_some]<;>rfl),by repeat (first | (with_reducible first | exact HB.out | apply below_alloc | apply pw_below_drewN | apply below_drew1 | refine below_set ?_ GE522.out) | exact HB.out)⟩
 ·replace c3:=Bool.eq_false_iff.mpr c3
  subst c3
  have H1 : ((walk_Canon.f l0_0 l0_1).bind fun bt525 => (if bt525.2.2 = 0 then ((walk_Steps.f l0_0 l0_1).bind fun bt535 => ((walk_Steps.f bt525.1 bt525.2.1).bind fun bt539 => ((walk_Order.f l0_0 l0_1).bind fun bt543 => (if bt539.2 = 0 then ((lapidaryref11_SameSteps.f k bt535.1 bt539.1).bind fun t550 => (if t550 = true then ((walk_Is.f k bt525.1 bt525.2.1).bind fun t551 => (if t551 = true then (if (bt543.1.length : Int) = (l0_0.length : Int) then (if (bt543.2.1.length : Int) = (l0_1.length : Int) then (if (bt525.2.1.length : Int) = (l0_1.length : Int) then (lapidarylaw11_WalkOnce.j0 k bt543.1 bt543.2.1 ((bt525.1.length : Int) != (l0_0.length : Int)) l0_0 l0_1 bt525.1 bt525.2.1) else (lapidarylaw11_WalkOnce.j0 k bt543.1 bt543.2.1 true l0_0 l0_1 bt525.1 bt525.2.1)) else (lapidarylaw11_WalkOnce.j0 k bt543.1 bt543.2.1 true l0_0 l0_1 bt525.1 bt525.2.1)) else (lapidarylaw11_WalkOnce.j0 k bt543.1 bt543.2.1 true l0_0 l0_1 bt525.1 bt525.2.1)) else (lapidarylaw11_WalkOnce.j0 k bt543.1 bt543.2.1 true l0_0 l0_1 bt525.1 bt525.2.1))) else (lapidarylaw11_WalkOnce.j0 k bt543.1 bt543.2.1 true l0_0 l0_1 bt525.1 bt525.2.1))) else (lapidarylaw11_WalkOnce.j0 k bt543.1 bt543.2.1 true l0_0 l0_1 bt525.1 bt525.2.1))))) else (if (bt525.2.1.length : Int) = 0 then ((walk_Is.f k l0_0 l0_1).bind fun t533 => (if t533 = true then (some false) else ((lapidarylaw11_known.f k).bind fun t534 => (some t534)))) else (some false)))) = some r:=by rw [if_neg (show ¬ (false = true) by decide)] at H;exact H
  clear H
  have H:=H1
  clear H1
  replace H:=Option.bind_eq_some_iff.mp H
  obtain ⟨⟨t525,t528,t531⟩,A90,H⟩:=H
  replace H : (if t531 = 0 then ((walk_Steps.f l0_0 l0_1).bind fun bt535 => ((walk_Steps.f t525 t528).bind fun bt539 => ((walk_Order.f l0_0 l0_1).bind fun bt543 => (if bt539.2 = 0 then ((lapidaryref11_SameSteps.f k bt535.1 bt539.1).bind fun t550 => (if t550 = true then ((walk_Is.f k t525 t528).bind fun t551 => (if t551 = true then (if (bt543.1.length : Int) = (l0_0.length : Int) then (if (bt543.2.1.length : Int) = (l0_1.length : Int) then (if (t528.length : Int) = (l0_1.length : Int) then (lapidarylaw11_WalkOnce.j0 k bt543.1 bt543.2.1 ((t525.length : Int) != (l0_0.length : Int)) l0_0 l0_1 t525 t528) else (lapidarylaw11_WalkOnce.j0 k bt543.1 bt543.2.1 true l0_0 l0_1 t525 t528)) else (lapidarylaw11_WalkOnce.j0 k bt543.1 bt543.2.1 true l0_0 l0_1 t525 t528)) else (lapidarylaw11_WalkOnce.j0 k bt543.1 bt543.2.1 true l0_0 l0_1 t525 t528)) else (lapidarylaw11_WalkOnce.j0 k bt543.1 bt543.2.1 true l0_0 l0_1 t525 t528))) else (lapidarylaw11_WalkOnce.j0 k bt543.1 bt543.2.1 true l0_0 l0_1 t525 t528))) else (lapidarylaw11_WalkOnce.j0 k bt543.1 bt543.2.1 true l0_0 l0_1 t525 t528))))) else (if (t528.length : Int) = 0 then ((walk_Is.f k l0_0 l0_1).bind fun t533 => (if t533 = true then (some false) else ((lapidarylaw11_known.f k).bind fun t534 => (some t534)))) else (some false))) = some r:=H
  have A9:=aMx16 A90
  clear A90
  by_cases c10 : t531 = 0
  ·rw [if_pos c10] at H
   have c10b0 : (t531 == 0) = true:=beq_iff_eq.mpr c10
   have c10b1 : (t531 != 0) = false:=bne_eq_false_iff_eq.mpr c10
   clear c10
   replace H:=Option.bind_eq_some_iff.mp H
   obtain ⟨⟨t535,t538⟩,A110,H⟩:=H
   replace H : ((walk_Steps.f t525 t528).bind fun bt539 => ((walk_Order.f l0_0 l0_1).bind fun bt543 => (if bt539.2 = 0 then ((lapidaryref11_SameSteps.f k t535 bt539.1).bind fun t550 => (if t550 = true then ((walk_Is.f k t525 t528).bind fun t551 => (if t551 = true then (if (bt543.1.length : Int) = (l0_0.length : Int) then (if (bt543.2.1.length : Int) = (l0_1.length : Int) then (if (t528.length : Int) = (l0_1.length : Int) then (lapidarylaw11_WalkOnce.j0 k bt543.1 bt543.2.1 ((t525.length : Int) != (l0_0.length : Int)) l0_0 l0_1 t525 t528) else (lapidarylaw11_WalkOnce.j0 k bt543.1 bt543.2.1 true l0_0 l0_1 t525 t528)) else (lapidarylaw11_WalkOnce.j0 k bt543.1 bt543.2.1 true l0_0 l0_1 t525 t528)) else (lapidarylaw11_WalkOnce.j0 k bt543.1 bt543.2.1 true l0_0 l0_1 t525 t528)) else (lapidarylaw11_WalkOnce.j0 k bt543.1 bt543.2.1 true l0_0 l0_1 t525 t528))) else (lapidarylaw11_WalkOnce.j0 k bt543.1 bt543.2.1 true l0_0 l0_1 t525 t528))) else (lapidarylaw11_WalkOnce.j0 k bt543.1 bt543.2.1 true l0_0 l0_1 t525 t528)))) = some r:=H
   have A11:=aMx16 A110
   clear A110
   replace H:=Option.bind_eq_some_iff.mp H
   obtain ⟨⟨t539,t542⟩,A120,H⟩:=H
   replace H : ((walk_Order.f l0_0 l0_1).bind fun bt543 => (if t542 = 0 then ((lapidaryref11_SameSteps.f k t535 t539).bind fun t550 => (if t550 = true then ((walk_Is.f k t525 t528).bind fun t551 => (if t551 = true then (if (bt543.1.length : Int) = (l0_0.length : Int) then (if (bt543.2.1.length : Int) = (l0_1.length : Int) then (if (t528.length : Int) = (l0_1.length : Int) then (lapidarylaw11_WalkOnce.j0 k bt543.1 bt543.2.1 ((t525.length : Int) != (l0_0.length : Int)) l0_0 l0_1 t525 t528) else (lapidarylaw11_WalkOnce.j0 k bt543.1 bt543.2.1 true l0_0 l0_1 t525 t528)) else (lapidarylaw11_WalkOnce.j0 k bt543.1 bt543.2.1 true l0_0 l0_1 t525 t528)) else (lapidarylaw11_WalkOnce.j0 k bt543.1 bt543.2.1 true l0_0 l0_1 t525 t528)) else (lapidarylaw11_WalkOnce.j0 k bt543.1 bt543.2.1 true l0_0 l0_1 t525 t528))) else (lapidarylaw11_WalkOnce.j0 k bt543.1 bt543.2.1 true l0_0 l0_1 t525 t528))) else (lapidarylaw11_WalkOnce.j0 k bt543.1 bt543.2.1 true l0_0 l0_1 t525 t528))) = some r:=H
   have A12:=aMx16 A120
   clear A120
   replace H:=Option.bind_eq_some_iff.mp H
   obtain ⟨⟨t543,t546,t549⟩,A130,H⟩:=H
   replace H : (if t542 = 0 then ((lapidaryref11_SameSteps.f k t535 t539).bind fun t550 => (if t550 = true then ((walk_Is.f k t525 t528).bind fun t551 => (if t551 = true then (if (t543.length : Int) = (l0_0.length : Int) then (if (t546.length : Int) = (l0_1.length : Int) then (if (t528.length : Int) = (l0_1.length : Int) then (lapidarylaw11_WalkOnce.j0 k t543 t546 ((t525.length : Int) != (l0_0.length : Int)) l0_0 l0_1 t525 t528) else (lapidarylaw11_WalkOnce.j0 k t543 t546 true l0_0 l0_1 t525 t528)) else (lapidarylaw11_WalkOnce.j0 k t543 t546 true l0_0 l0_1 t525 t528)) else (lapidarylaw11_WalkOnce.j0 k t543 t546 true l0_0 l0_1 t525 t528)) else (lapidarylaw11_WalkOnce.j0 k t543 t546 true l0_0 l0_1 t525 t528))) else (lapidarylaw11_WalkOnce.j0 k t543 t546 true l0_0 l0_1 t525 t528))) else (lapidarylaw11_WalkOnce.j0 k t543 t546 true l0_0 l0_1 t525 t528)) = some r:=H
   have A13:=aMx16 A130
   clear A130
   have HC14:=aMx16 H
   clear H
   go_enter Tryd.func7,Tryd.ntmps7
   go_upto_region 9 with (first | ((with_reducible refine gate_dst (N:=1) rfl ?_);(try (refine gate_guard (by rfl) ?_;dsimp only));refine box_event ?hg (N:=1) ?hd (cs:=#[.slice A0_0 l0_0.length c0_0,.slice A0_1 l0_1.length c0_1]) (t:=25) ?hr ?_;(case hd => rfl);(case hg => rfl);(case hr => first | (go_simp;done) | (go_simp;rfl));intro gb522 hg w15 hbox hb;have n0_:=aMx16 (below_step (by repeat (first | (with_reducible first | exact HB.out | apply below_alloc | apply pw_below_drewN | apply below_drew1) | exact HB.out)) hb);have n1_:=aMx16 (hbox);have n2_:=aMx16 ((by rw [hg];exact (below_size (by repeat (first | (with_reducible first | exact HB.out | apply below_alloc | apply pw_below_drewN | apply below_drew1) | exact HB.out))) : w.heap.size ≤ gb522));have n3_:=aMx16 ((by rw [hg];exact (below_size (by repeat (first | (with_reducible first | exact HB.out | apply below_alloc | apply pw_below_drewN | apply below_drew1) | exact HB.out))) : w.heap.size ≤ gb522));clear HB;have HB:=n0_;have BK522:=n1_;have GW522:=n2_;have GE522:=n3_;clear n0_ n1_ n2_ n3_;clear hb hbox hg;have hcz16_0 : w15.cell? ⟨gb522,0,none⟩ = some (.slice A0_0 l0_0.length c0_0):=(blk_cell BK522.out 0).trans rfl;have hcz16_1 : w15.cell? ⟨gb522,1,none⟩ = some (.slice A0_1 l0_1.length c0_1):=(blk_cell BK522.out 1).trans rfl;have hfz16_0:=blk_frozen BK522.out 0;have hfz16_1:=blk_frozen BK522.out 1) | ((with_reducible refine gate_callee (f:=18) rfl ?_);refine goesL_ (some 18) rfl rfl Tryd.func18 (by kernel_rfl) rfl #[.agg #[.slice A0_0 l0_0.length c0_0,.slice A0_1 l0_1.length c0_1]] rfl (by (try simp only [List.map_toArray,List.map_cons,List.map_nil]);first | done | rfl | (simp only [List.length_drop,List.length_take];rfl)) ?_;(with_reducible refine (lapidarylaw11_long.calls _ _ l0_0 _ _ l0_1 false _ ?side1 ?side2 ?side3 ?side4 A2.out).mono ?_);(case side1 => repeat (first | exact (Kd.C_below HR0_0.out HB.out) | (with_reducible refine Kd.C_alloc ?_ _) | (with_reducible refine Kd.C_drewN ?_ _) | (with_reducible refine Kd.C_drew ?_)));(case side2 => exact HC0_0.out);(case side3 => repeat (first | exact (Kd.C_below HR0_1.out HB.out) | (with_reducible refine Kd.C_alloc ?_ _) | (with_reducible refine Kd.C_drewN ?_ _) | (with_reducible refine Kd.C_drew ?_)));(case side4 => exact HC0_1.out);rintro e w17 ⟨rfl,hb⟩;refine ⟨_,rfl,?_⟩;have n0_:=aMx16 (blk_below (g:=gb522) (o:=.cells #[.slice A0_0 l0_0.length c0_0,.slice A0_1 l0_1.length c0_1] 25 (0,0)) (by (with_reducible repeat (first | refine blk_drewN ?_ _ | refine blk_drew ?_ | refine blk_alloc ?_ _));exact BK522.out) hb);have n1_:=aMx16 (below_step (by repeat (first | (with_reducible first | exact HB.out | apply below_alloc | apply pw_below_drewN | apply below_drew1 | refine below_set ?_ GE522.out) | exact HB.out)) hb);clear BK522;clear HB;have BK522:=n0_;have HB:=n1_;clear n0_ n1_;(try clear hb);(try clear hb2);(try clear hk);(try clear hi);have hcz18_0 : w17.cell? ⟨gb522,0,none⟩ = some (.slice A0_0 l0_0.length c0_0):=(blk_cell BK522.out 0).trans rfl;have hcz18_1 : w17.cell? ⟨gb522,1,none⟩ = some (.slice A0_1 l0_1.length c0_1):=(blk_cell BK522.out 1).trans rfl;have hfz18_0:=blk_frozen BK522.out 0;have hfz18_1:=blk_frozen BK522.out 1) | ((with_reducible refine gate_callee (f:=27) rfl ?_);refine goesL_ (some 22) rfl rfl Tryd.func27 (by kernel_rfl) rfl #[.agg #[.slice A0_0 l0_0.length c0_0,.slice A0_1 l0_1.length c0_1]] rfl (by (try simp only [List.map_toArray,List.map_cons,List.map_nil]);first | done | rfl | (simp only [List.length_drop,List.length_take];rfl)) ?_;(with_reducible refine (walk_Canon.calls _ _ l0_0 _ _ l0_1 t525 t528 t531 _ ?side1 ?side2 ?side3 ?side4 ?sideG A9.out).mono ?_);(case sideG => exact Kd.C_below HG.out (by repeat (first | (with_reducible first | exact HB.out | apply below_alloc | apply pw_below_drewN | apply below_drew1 | refine below_set ?_ GE522.out | refine below_set ?_ GE532.out) | exact HB.out)));(case side1 => repeat (first | exact (Kd.C_below HR0_0.out HB.out) | (with_reducible refine Kd.C_alloc ?_ _) | (with_reducible refine Kd.C_drewN ?_ _) | (with_reducible refine Kd.C_drew ?_)));(case side2 => exact HC0_0.out);(case side3 => repeat (first | exact (Kd.C_below HR0_1.out HB.out) | (with_reducible refine Kd.C_alloc ?_ _) | (with_reducible refine Kd.C_drewN ?_ _) | (with_reducible refine Kd.C_drew ?_)));(case side4 => exact HC0_1.out);rintro e w19 ⟨v526,v529,rfl,ho0,ho1,hb⟩;refine ⟨_,rfl,?_⟩;have n0_:=aMx16 (Kd.R_lower ho0 (below_size (by repeat (first | (with_reducible first | exact HB.out | apply below_alloc | apply pw_below_drewN | apply below_drew1 | refine below_set ?_ GE522.out) | exact HB.out))));have n1_:=aMx16 (Kd.R_lower ho1 (below_size (by repeat (first | (with_reducible first | exact HB.out | apply below_alloc | apply pw_below_drewN | apply below_drew1 | refine below_set ?_ GE522.out) | exact HB.out))));have n2_:=aMx16 (blk_below (g:=gb522) (o:=.cells #[.slice A0_0 l0_0.length c0_0,.slice A0_1 l0_1.length c0_1] 25 (0,0)) (by (with_reducible repeat (first | refine blk_drewN ?_ _ | refine blk_drew ?_ | refine blk_alloc ?_ _));exact BK522.out) hb);have n3_:=aMx16 (below_step (by repeat (first | (with_reducible first | exact HB.out | apply below_alloc | apply pw_below_drewN | apply below_drew1 | refine below_set ?_ GE522.out) | exact HB.out)) hb);clear BK522;clear HB;have HO527:=n0_;have HO530:=n1_;have BK522:=n2_;have HB:=n3_;clear n0_ n1_ n2_ n3_;(try clear hb);(try clear hb2);(try clear hk);(try clear hi);(try clear ho0);(try clear ho1)) | ((with_reducible refine gate_dst (N:=3) rfl ?_);(try (refine gate_guard (by rfl) ?_;dsimp only));refine box_event ?hg (N:=3) ?hd (cs:=#[.slice none 0 0,.slice none 0 0]) (t:=25) ?hr ?_;(case hd => rfl);(case hg => rfl);(case hr => first | (go_simp;done) | (go_simp;rfl));intro gb532 hg w20 hbox hb;have n0_:=aMx16 (Kd.R_below (by (with_reducible repeat (first | apply Kd.R_alloc | apply Kd.R_drewN | apply Kd.R_drew));exact HO527.out) hb);have n1_:=aMx16 (Kd.R_below (by (with_reducible repeat (first | apply Kd.R_alloc | apply Kd.R_drewN | apply Kd.R_drew));exact HO530.out) hb);have n2_:=aMx16 (blk_below (g:=gb522) (o:=.cells #[.slice A0_0 l0_0.length c0_0,.slice A0_1 l0_1.length c0_1] 25 (0,0)) (by (with_reducible repeat (first | refine blk_drewN ?_ _ | refine blk_drew ?_ | refine blk_alloc ?_ _));exact BK522.out) hb);have n3_:=aMx16 (below_step (by repeat (first | (with_reducible first | exact HB.out | apply below_alloc | apply pw_below_drewN | apply below_drew1 | refine below_set ?_ GE522.out) | exact HB.out)) hb);have n4_:=aMx16 (hbox);have n5_:=aMx16 ((by rw [hg];exact (below_size (by repeat (first | (with_reducible first | exact HB.out | apply below_alloc | apply pw_below_drewN | apply below_drew1 | refine below_set ?_ GE522.out) | exact HB.out))) : w.heap.size ≤ gb532));have n6_:=aMx16 ((by rw [hg];exact (below_size (by repeat (first | (with_reducible first | exact HB.out | apply below_alloc | apply pw_below_drewN | apply below_drew1 | refine below_set ?_ GE522.out) | exact HB.out))) : w.heap.size ≤ gb532));have n7_:=aMx16 ((by rw [hg];exact Nat.ne_of_lt (blk_lt (g:=gb522) (o:=.cells #[.slice A0_0 l0_0.length c0_0,.slice A0_1 l0_1.length c0_1] 25 (0,0)) (by (with_reducible repeat (first | refine blk_drewN ?_ _ | refine blk_drew ?_ | refine blk_alloc ?_ _));exact BK522.out)) : gb522 ≠ gb532));have n8_:=aMx16 ((by rw [hg];exact Nat.ne_of_gt (blk_lt (g:=gb522) (o:=.cells #[.slice A0_0 l0_0.length c0_0,.slice A0_1 l0_1.length c0_1] 25 (0,0)) (by (with_reducible repeat (first | refine blk_drewN ?_ _ | refine blk_drew ?_ | refine blk_alloc ?_ _));exact BK522.out)) : gb532 ≠ gb522));clear HO527;clear HO530;clear BK522;clear HB;have HO527:=n0_;have HO530:=n1_;have BK522:=n2_;have HB:=n3_;have BK532:=n4_;have GW532:=n5_;have GE532:=n6_;have NB522_532:=n7_;have NB532_522:=n8_;clear n0_ n1_ n2_ n3_ n4_ n5_ n6_ n7_ n8_;clear hb hbox hg;obtain ⟨Ao21,co21,eo21⟩:=Kd.R_slice HO527.out;subst eo21;have hnb22:=NB532_522.out;have hnc22:=NB522_532.out;have hcz23_0 : w20.cell? ⟨gb532,0,none⟩ = some (.slice none 0 0):=(blk_cell BK532.out 0).trans rfl;have hcz23_1 : w20.cell? ⟨gb532,1,none⟩ = some (.slice none 0 0):=(blk_cell BK532.out 1).trans rfl;have hfz23_0:=blk_frozen BK532.out 0;have hfz23_1:=blk_frozen BK532.out 1;obtain ⟨Ao24,co24,eo24⟩:=Kd.R_slice HO530.out;subst eo24;have hcz25_0 : w20.cell? ⟨gb522,0,none⟩ = some (.slice A0_0 l0_0.length c0_0):=(blk_cell BK522.out 0).trans rfl;have hcz25_1 : w20.cell? ⟨gb522,1,none⟩ = some (.slice A0_1 l0_1.length c0_1):=(blk_cell BK522.out 1).trans rfl;have hfz25_0:=blk_frozen BK522.out 0;have hfz25_1:=blk_frozen BK522.out 1) | ((with_reducible refine gate_callee (f:=20) rfl ?_);refine goesL_ (some 41) rfl rfl Tryd.func20 (by kernel_rfl) rfl #[.agg #[.slice A0_0 l0_0.length c0_0,.slice A0_1 l0_1.length c0_1]] rfl (by (try simp only [List.map_toArray,List.map_cons,List.map_nil]);first | done | rfl | (simp only [List.length_drop,List.length_take];rfl)) ?_;(with_reducible refine (walk_Steps.calls _ _ l0_0 _ _ l0_1 t535 t538 _ ?side1 ?side2 ?side3 ?side4 ?sideG A11.out).mono ?_);(case sideG => exact Kd.C_below HG.out (by repeat (first | (with_reducible first | exact HB.out | apply below_alloc | apply pw_below_drewN | apply below_drew1 | refine below_set ?_ GE522.out | refine below_set ?_ GE532.out) | exact HB.out)));(case side1 => exact Kd.C_below HR0_0.out (by repeat (first | (with_reducible first | exact HB.out | apply below_alloc | apply pw_below_drewN | apply below_drew1 | refine below_set ?_ GE522.out | refine below_set ?_ GE532.out) | exact HB.out)));(case side2 => exact HC0_0.out);(case side3 => exact Kd.C_below HR0_1.out (by repeat (first | (with_reducible first | exact HB.out | apply below_alloc | apply pw_below_drewN | apply below_drew1 | refine below_set ?_ GE522.out | refine below_set ?_ GE532.out) | exact HB.out)));(case side4 => exact HC0_1.out);rintro e w26 ⟨v536,rfl,ho0,hb⟩;refine ⟨_,rfl,?_⟩;have n0_:=aMx16 (Kd.R_below (by (with_reducible repeat (first | apply Kd.R_alloc | apply Kd.R_drewN | apply Kd.R_drew));exact (Kd.R_mono (Kd.R_far (p:=⟨gb532,1,none⟩) (Kd.R_far (p:=⟨gb532,0,none⟩) (Kd.R_types HO527.out BK532.out (by decide)) (fun _ hk => hk.2) (.slice Ao21 t525.length co21)) (fun _ hk => hk.2) (.slice Ao24 t528.length co24)) (fun _ h_ => h_.1))) hb);have n1_:=aMx16 (Kd.R_below (by (with_reducible repeat (first | apply Kd.R_alloc | apply Kd.R_drewN | apply Kd.R_drew));exact (Kd.R_mono (Kd.R_far (p:=⟨gb532,1,none⟩) (Kd.R_far (p:=⟨gb532,0,none⟩) (Kd.R_types HO530.out BK532.out (by decide)) (fun _ hk => hk.2) (.slice Ao21 t525.length co21)) (fun _ hk => hk.2) (.slice Ao24 t528.length co24)) (fun _ h_ => h_.1))) hb);have n2_:=aMx16 (Kd.R_lower ho0 (below_size (by repeat (first | (with_reducible first | exact HB.out | apply below_alloc | apply pw_below_drewN | apply below_drew1 | refine below_set ?_ GE522.out | refine below_set ?_ GE532.out) | exact HB.out))));have n3_:=aMx16 (blk_below (g:=gb522) (o:=.cells #[.slice A0_0 l0_0.length c0_0,.slice A0_1 l0_1.length c0_1] 25 (0,0)) (by (with_reducible repeat (first | refine blk_drewN ?_ _ | refine blk_drew ?_ | refine blk_alloc ?_ _));refine blk_far ?_ NB522_532.out _;(with_reducible repeat (first | refine blk_drewN ?_ _ | refine blk_drew ?_ | refine blk_alloc ?_ _));refine blk_far ?_ NB522_532.out _;(with_reducible repeat (first | refine blk_drewN ?_ _ | refine blk_drew ?_ | refine blk_alloc ?_ _));exact BK522.out) hb);have n4_:=aMx16 (blk_below (g:=gb532) (o:=.cells #[.slice Ao21 t525.length co21,.slice Ao24 t528.length co24] 25 (0,0)) (by (with_reducible repeat (first | refine blk_drewN ?_ _ | refine blk_drew ?_ | refine blk_alloc ?_ _));refine blk_put (cs:=#[.slice Ao21 t525.length co21,.slice none 0 0]) ?_ 1 _ rfl;(with_reducible repeat (first | refine blk_drewN ?_ _ | refine blk_drew ?_ | refine blk_alloc ?_ _));refine blk_put (cs:=#[.slice none 0 0,.slice none 0 0]) ?_ 0 _ rfl;(with_reducible repeat (first | refine blk_drewN ?_ _ | refine blk_drew ?_ | refine blk_alloc ?_ _));exact BK532.out) hb);have n5_:=aMx16 (below_step (by repeat (first | (with_reducible first | exact HB.out | apply below_alloc | apply pw_below_drewN | apply below_drew1 | refine below_set ?_ GE522.out | refine below_set ?_ GE532.out) | exact HB.out)) hb);clear HO527;clear HO530;clear BK522;clear BK532;clear HB;have HO527:=n0_;have HO530:=n1_;have HO537:=n2_;have BK522:=n3_;have BK532:=n4_;have HB:=n5_;clear n0_ n1_ n2_ n3_ n4_ n5_;(try clear hb);(try clear hb2);(try clear hk);(try clear hi);(try clear ho0);have hcz27_0 : w26.cell? ⟨gb532,0,none⟩ = some (.slice Ao21 t525.length co21):=(blk_cell BK532.out 0).trans rfl;have hcz27_1 : w26.cell? ⟨gb532,1,none⟩ = some (.slice Ao24 t528.length co24):=(blk_cell BK532.out 1).trans rfl;have hfz27_0:=blk_frozen BK532.out 0;have hfz27_1:=blk_frozen BK532.out 1) | ((with_reducible refine gate_callee (f:=20) rfl ?_);refine goesL_ (some 46) rfl rfl Tryd.func20 (by kernel_rfl) rfl #[.agg #[.slice Ao21 t525.length co21,.slice Ao24 t528.length co24]] rfl (by (try simp only [List.map_toArray,List.map_cons,List.map_nil]);first | done | rfl | (simp only [List.length_drop,List.length_take];rfl)) ?_;(with_reducible refine (walk_Steps.calls _ _ t525 _ _ t528 t539 t542 _ ?side1 ?side2 ?side3 ?side4 ?sideG A12.out).mono ?_);(case sideG => exact Kd.C_below HG.out (by repeat (first | (with_reducible first | exact HB.out | apply below_alloc | apply pw_below_drewN | apply below_drew1 | refine below_set ?_ GE522.out | refine below_set ?_ GE532.out) | exact HB.out)));(case side1 => repeat (first | exact (Kd.R_reads' HO527.out).2.2 | (with_reducible refine Kd.C_alloc ?_ _) | (with_reducible refine Kd.C_drewN ?_ _) | (with_reducible refine Kd.C_drew ?_)));(case side2 => exact (Kd.R_reads' HO527.out).2.1);(case side3 => repeat (first | exact (Kd.R_reads' HO530.out).2.2 | (with_reducible refine Kd.C_alloc ?_ _) | (with_reducible refine Kd.C_drewN ?_ _) | (with_reducible refine Kd.C_drew ?_)));(case side4 => exact (Kd.R_reads' HO530.out).2.1);rintro e w28 ⟨v540,rfl,ho0,hb⟩;refine ⟨_,rfl,?_⟩;have n0_:=aMx16 (Kd.R_below (by (with_reducible repeat (first | apply Kd.R_alloc | apply Kd.R_drewN | apply Kd.R_drew));exact HO527.out) hb);have n1_:=aMx16 (Kd.R_below (by (with_reducible repeat (first | apply Kd.R_alloc | apply Kd.R_drewN | apply Kd.R_drew));exact HO530.out) hb);have n2_:=aMx16 (Kd.R_elder' (by (with_reducible repeat (first | apply Kd.R_alloc | apply Kd.R_drewN | apply Kd.R_drew));exact HO537.out) (Kd.R_base ho0) hb);have n3_:=aMx16 (Kd.R_lower (Kd.R_new' ho0 (Kd.R_lt (by (with_reducible repeat (first | apply Kd.R_alloc | apply Kd.R_drewN | apply Kd.R_drew));exact HO537.out))) (below_size (by repeat (first | (with_reducible first | exact HB.out | apply below_alloc | apply pw_below_drewN | apply below_drew1 | refine below_set ?_ GE522.out | refine below_set ?_ GE532.out) | exact HB.out))));have n4_:=aMx16 (blk_below (g:=gb522) (o:=.cells #[.slice A0_0 l0_0.length c0_0,.slice A0_1 l0_1.length c0_1] 25 (0,0)) (by (with_reducible repeat (first | refine blk_drewN ?_ _ | refine blk_drew ?_ | refine blk_alloc ?_ _));exact BK522.out) hb);have n5_:=aMx16 (blk_below (g:=gb532) (o:=.cells #[.slice Ao21 t525.length co21,.slice Ao24 t528.length co24] 25 (0,0)) (by (with_reducible repeat (first | refine blk_drewN ?_ _ | refine blk_drew ?_ | refine blk_alloc ?_ _));exact BK532.out) hb);have n6_:=aMx16 (below_step (by repeat (first | (with_reducible first | exact HB.out | apply below_alloc | apply pw_below_drewN | apply below_drew1 | refine below_set ?_ GE522.out | refine below_set ?_ GE532.out) | exact HB.out)) hb);clear HO527;clear HO530;clear HO537;clear BK522;clear BK532;clear HB;have HO527:=n0_;have HO530:=n1_;have HO537:=n2_;have HO541:=n3_;have BK522:=n4_;have BK532:=n5_;have HB:=n6_;clear n0_ n1_ n2_ n3_ n4_ n5_ n6_;(try clear hb);(try clear hb2);(try clear hk);(try clear hi);(try clear ho0);have hcz29_0 : w28.cell? ⟨gb522,0,none⟩ = some (.slice A0_0 l0_0.length c0_0):=(blk_cell BK522.out 0).trans rfl;have hcz29_1 : w28.cell? ⟨gb522,1,none⟩ = some (.slice A0_1 l0_1.length c0_1):=(blk_cell BK522.out 1).trans rfl;have hfz29_0:=blk_frozen BK522.out 0;have hfz29_1:=blk_frozen BK522.out 1) | ((with_reducible refine gate_callee (f:=21) rfl ?_);refine goesL_ (some 51) rfl rfl Tryd.func21 (by kernel_rfl) rfl #[.agg #[.slice A0_0 l0_0.length c0_0,.slice A0_1 l0_1.length c0_1]] rfl (by (try simp only [List.map_toArray,List.map_cons,List.map_nil]);first | done | rfl | (simp only [List.length_drop,List.length_take];rfl)) ?_;(with_reducible refine (walk_Order.calls _ _ l0_0 _ _ l0_1 t543 t546 t549 _ ?side1 ?side2 ?side3 ?side4 ?sideG A13.out).mono ?_);(case sideG => exact Kd.C_below HG.out (by repeat (first | (with_reducible first | exact HB.out | apply below_alloc | apply pw_below_drewN | apply below_drew1 | refine below_set ?_ GE522.out | refine below_set ?_ GE532.out) | exact HB.out)));(case side1 => repeat (first | exact (Kd.C_below HR0_0.out HB.out) | (with_reducible refine Kd.C_alloc ?_ _) | (with_reducible refine Kd.C_drewN ?_ _) | (with_reducible refine Kd.C_drew ?_)));(case side2 => exact HC0_0.out);(case side3 => repeat (first | exact (Kd.C_below HR0_1.out HB.out) | (with_reducible refine Kd.C_alloc ?_ _) | (with_reducible refine Kd.C_drewN ?_ _) | (with_reducible refine Kd.C_drew ?_)));(case side4 => exact HC0_1.out);rintro e w30 ⟨v544,v547,rfl,ho0,ho1,hb⟩;refine ⟨_,rfl,?_⟩;have n0_:=aMx16 (Kd.R_below (by (with_reducible repeat (first | apply Kd.R_alloc | apply Kd.R_drewN | apply Kd.R_drew));exact HO527.out) hb);have n1_:=aMx16 (Kd.R_below (by (with_reducible repeat (first | apply Kd.R_alloc | apply Kd.R_drewN | apply Kd.R_drew));exact HO530.out) hb);have n2_:=aMx16 (Kd.R_below (by (with_reducible repeat (first | apply Kd.R_alloc | apply Kd.R_drewN | apply Kd.R_drew));exact HO537.out) hb);have n3_:=aMx16 (Kd.R_below (by (with_reducible repeat (first | apply Kd.R_alloc | apply Kd.R_drewN | apply Kd.R_drew));exact HO541.out) hb);have n4_:=aMx16 (Kd.R_lower ho0 (below_size (by repeat (first | (with_reducible first | exact HB.out | apply below_alloc | apply pw_below_drewN | apply below_drew1 | refine below_set ?_ GE522.out | refine below_set ?_ GE532.out) | exact HB.out))));have n5_:=aMx16 (Kd.R_lower ho1 (below_size (by repeat (first | (with_reducible first | exact HB.out | apply below_alloc | apply pw_below_drewN | apply below_drew1 | refine below_set ?_ GE522.out | refine below_set ?_ GE532.out) | exact HB.out))));have n6_:=aMx16 (blk_below (g:=gb522) (o:=.cells #[.slice A0_0 l0_0.length c0_0,.slice A0_1 l0_1.length c0_1] 25 (0,0)) (by (with_reducible repeat (first | refine blk_drewN ?_ _ | refine blk_drew ?_ | refine blk_alloc ?_ _));exact BK522.out) hb);have n7_:=aMx16 (blk_below (g:=gb532) (o:=.cells #[.slice Ao21 t525.length co21,.slice Ao24 t528.length co24] 25 (0,0)) (by (with_reducible repeat (first | refine blk_drewN ?_ _ | refine blk_drew ?_ | refine blk_alloc ?_ _));exact BK532.out) hb);have n8_:=aMx16 (below_step (by repeat (first | (with_reducible first | exact HB.out | apply below_alloc | apply pw_below_drewN | apply below_drew1 | refine below_set ?_ GE522.out | refine below_set ?_ GE532.out) | exact HB.out)) hb);clear HO527;clear HO530;clear HO537;clear HO541;clear BK522;clear BK532;clear HB;have HO527:=n0_;have HO530:=n1_;have HO537:=n2_;have HO541:=n3_;have HO545:=n4_;have HO548:=n5_;have BK522:=n6_;have BK532:=n7_;have HB:=n8_;clear n0_ n1_ n2_ n3_ n4_ n5_ n6_ n7_ n8_;(try clear hb);(try clear hb2);(try clear hk);(try clear hi);(try clear ho0);(try clear ho1)))
   (try simp only [Act.put,sAx16,sBx16,sCx16])
   go_cut [101] (fun v101 wc => ∃ (kq : Nat) (x101_13 : Bool),v101 = .bool x101_13 ∧ Aside0 (lapidarylaw11_WalkOnce.j0 kq t543 t546 x101_13 l0_0 l0_1 t525 t528 = some r) ∧ Aside0 (kq ≤ k) ∧ Aside0 (Kd.R (Kd.int .i64) 3 wc w.heap.size (fun k_ => some k_ ≠ (v547 : Value).ownBlock) v544 t543) ∧ Aside0 (Kd.R (Kd.int .i64) 3 wc w.heap.size (fun k_ => some k_ ≠ (v544 : Value).ownBlock) v547 t546) ∧ Aside0 (Kd.R k46 46 wc w.heap.size (fun _ => True) (.slice Ao21 t525.length co21) t525) ∧ Aside0 (Kd.R k47 47 wc w.heap.size (fun _ => True) (.slice Ao24 t528.length co24) t528) ∧ Aside0 (wc.heap[gb522]? = some (.cells #[(.slice A0_0 l0_0.length c0_0),(.slice A0_1 l0_1.length c0_1)] 25 (0,0))) ∧ Aside0 (wc.heap[gb532]? = some (.cells #[(.slice Ao21 t525.length co21),(.slice Ao24 t528.length co24)] 25 (0,0))) ∧ Aside0 (Below w.heap.size w wc))
   case first =>
    have H:=HC14.out
    clear HC14
    by_cases c31 : t542 = 0
    ·rw [if_pos c31] at H
     have c31b0 : (t542 == 0) = true:=beq_iff_eq.mpr c31
     have c31b1 : (t542 != 0) = false:=bne_eq_false_iff_eq.mpr c31
     clear c31
     (first | rw [c31b0] | (simp only [i64_w,i32_w];rw [c31b0]) | skip)
     replace H:=Option.bind_eq_some_iff.mp H
     obtain ⟨t550,A320,H⟩:=H
     replace H : (if t550 = true then ((walk_Is.f k t525 t528).bind fun t551 => (if t551 = true then (if (t543.length : Int) = (l0_0.length : Int) then (if (t546.length : Int) = (l0_1.length : Int) then (if (t528.length : Int) = (l0_1.length : Int) then (lapidarylaw11_WalkOnce.j0 k t543 t546 ((t525.length : Int) != (l0_0.length : Int)) l0_0 l0_1 t525 t528) else (lapidarylaw11_WalkOnce.j0 k t543 t546 true l0_0 l0_1 t525 t528)) else (lapidarylaw11_WalkOnce.j0 k t543 t546 true l0_0 l0_1 t525 t528)) else (lapidarylaw11_WalkOnce.j0 k t543 t546 true l0_0 l0_1 t525 t528)) else (lapidarylaw11_WalkOnce.j0 k t543 t546 true l0_0 l0_1 t525 t528))) else (lapidarylaw11_WalkOnce.j0 k t543 t546 true l0_0 l0_1 t525 t528)) = some r:=H
     have A32:=aMx16 A320
     clear A320
     by_cases c33 : t550 = true
     ·subst c33
      have H1 : ((walk_Is.f k t525 t528).bind fun t551 => (if t551 = true then (if (t543.length : Int) = (l0_0.length : Int) then (if (t546.length : Int) = (l0_1.length : Int) then (if (t528.length : Int) = (l0_1.length : Int) then (lapidarylaw11_WalkOnce.j0 k t543 t546 ((t525.length : Int) != (l0_0.length : Int)) l0_0 l0_1 t525 t528) else (lapidarylaw11_WalkOnce.j0 k t543 t546 true l0_0 l0_1 t525 t528)) else (lapidarylaw11_WalkOnce.j0 k t543 t546 true l0_0 l0_1 t525 t528)) else (lapidarylaw11_WalkOnce.j0 k t543 t546 true l0_0 l0_1 t525 t528)) else (lapidarylaw11_WalkOnce.j0 k t543 t546 true l0_0 l0_1 t525 t528))) = some r:=by rw [if_pos rfl] at H;exact H
      clear H
      have H:=H1
      clear H1
      replace H:=Option.bind_eq_some_iff.mp H
      obtain ⟨t551,A340,H⟩:=H
      replace H : (if t551 = true then (if (t543.length : Int) = (l0_0.length : Int) then (if (t546.length : Int) = (l0_1.length : Int) then (if (t528.length : Int) = (l0_1.length : Int) then (lapidarylaw11_WalkOnce.j0 k t543 t546 ((t525.length : Int) != (l0_0.length : Int)) l0_0 l0_1 t525 t528) else (lapidarylaw11_WalkOnce.j0 k t543 t546 true l0_0 l0_1 t525 t528)) else (lapidarylaw11_WalkOnce.j0 k t543 t546 true l0_0 l0_1 t525 t528)) else (lapidarylaw11_WalkOnce.j0 k t543 t546 true l0_0 l0_1 t525 t528)) else (lapidarylaw11_WalkOnce.j0 k t543 t546 true l0_0 l0_1 t525 t528)) = some r:=H
      have A34:=aMx16 A340
      clear A340
      by_cases c35 : t551 = true
      ·subst c35
       have H1 : (if (t543.length : Int) = (l0_0.length : Int) then (if (t546.length : Int) = (l0_1.length : Int) then (if (t528.length : Int) = (l0_1.length : Int) then (lapidarylaw11_WalkOnce.j0 k t543 t546 ((t525.length : Int) != (l0_0.length : Int)) l0_0 l0_1 t525 t528) else (lapidarylaw11_WalkOnce.j0 k t543 t546 true l0_0 l0_1 t525 t528)) else (lapidarylaw11_WalkOnce.j0 k t543 t546 true l0_0 l0_1 t525 t528)) else (lapidarylaw11_WalkOnce.j0 k t543 t546 true l0_0 l0_1 t525 t528)) = some r:=by rw [if_pos rfl] at H;exact H
       clear H
       have H:=H1
       clear H1
       by_cases c36 : (t543.length : Int) = (l0_0.length : Int)
       ·rw [if_pos c36] at H
        have c36b0 : ((t543.length : Int) == (l0_0.length : Int)) = true:=beq_iff_eq.mpr c36
        have c36b1 : ((t543.length : Int) != (l0_0.length : Int)) = false:=bne_eq_false_iff_eq.mpr c36
        have c36b2 : (t543.length == l0_0.length) = true:=by first | simpa using c36 | (simp at c36 ⊢;omega)
        clear c36
        by_cases c37 : (t546.length : Int) = (l0_1.length : Int)
        ·rw [if_pos c37] at H
         have c37b0 : ((t546.length : Int) == (l0_1.length : Int)) = true:=beq_iff_eq.mpr c37
         have c37b1 : ((t546.length : Int) != (l0_1.length : Int)) = false:=bne_eq_false_iff_eq.mpr c37
         have c37b2 : (t546.length == l0_1.length) = true:=by first | simpa using c37 | (simp at c37 ⊢;omega)
         clear c37
         by_cases c38 : (t528.length : Int) = (l0_1.length : Int)
         ·rw [if_pos c38] at H
          have c38b0 : ((t528.length : Int) == (l0_1.length : Int)) = true:=beq_iff_eq.mpr c38
          have c38b1 : ((t528.length : Int) != (l0_1.length : Int)) = false:=bne_eq_false_iff_eq.mpr c38
          have c38b2 : (t528.length == l0_1.length) = true:=by first | simpa using c38 | (simp at c38 ⊢;omega)
          clear c38
          have H':=aMx16 H
          clear H
          obtain ⟨Ao39,co39,eo39⟩:=Kd.R_slice HO537.out
          subst eo39
          obtain ⟨Ao40,co40,eo40⟩:=Kd.R_slice HO541.out
          subst eo40
          go_wp2_with (first|(go_at_call 23;(with_reducible refine (lapidaryref11_SameSteps.calls k _ _ t535 _ _ t539 true _ ?side1 ?side2 ?side3 ?side4 A32.out).mono ?_);(case side1 => repeat (first|exact (Kd.R_reads' HO537.out).2.2|(with_reducible first|refine Kd.C_alloc ?_ _|refine Kd.C_drewN ?_ _|refine Kd.C_drew ?_)));(case side2 => exact (Kd.R_reads' HO537.out).2.1);(case side3 => repeat (first|exact (Kd.R_reads' HO541.out).2.2|(with_reducible first|refine Kd.C_alloc ?_ _|refine Kd.C_drewN ?_ _|refine Kd.C_drew ?_)));(case side4 => exact (Kd.R_reads' HO541.out).2.1);rintro e w' ⟨rfl,⟨nd,rfl⟩⟩;have hnb41:=NB532_522.out;have hnc41:=NB522_532.out;have hcz42_0 : w30.cell? ⟨gb532,0,none⟩ = some (.slice Ao21 t525.length co21):=(blk_cell BK532.out 0).trans rfl;have hcz42_1 : w30.cell? ⟨gb532,1,none⟩ = some (.slice Ao24 t528.length co24):=(blk_cell BK532.out 1).trans rfl;have hfz42_0:=blk_frozen BK532.out 0;have hfz42_1:=blk_frozen BK532.out 1)|(go_at_call 30;(with_reducible refine (walk_Is.calls k _ _ t525 _ _ t528 true _ ?side1 ?side2 ?side3 ?side4 ?sideG A34.out).mono ?_);(case sideG => exact Kd.C_below HG.out (by repeat (first|(with_reducible first|exact HB.out|apply below_alloc|apply pw_below_drewN|apply below_drew1|refine below_set ?_ GE522.out|refine below_set ?_ GE532.out)|exact HB.out)));(case side1 => repeat (first|exact (Kd.R_reads' HO527.out).2.2|(with_reducible first|refine Kd.C_alloc ?_ _|refine Kd.C_drewN ?_ _|refine Kd.C_drew ?_)));(case side2 => exact (Kd.R_reads' HO527.out).2.1);(case side3 => repeat (first|exact (Kd.R_reads' HO530.out).2.2|(with_reducible first|refine Kd.C_alloc ?_ _|refine Kd.C_drewN ?_ _|refine Kd.C_drew ?_)));(case side4 => exact (Kd.R_reads' HO530.out).2.1);rintro e w43 ⟨rfl,hb⟩;have n0_:=aMx16 (Kd.R_below (by (with_reducible repeat (first|apply Kd.R_alloc|apply Kd.R_drewN|apply Kd.R_drew));exact HO527.out) hb);have n1_:=aMx16 (Kd.R_below (by (with_reducible repeat (first|apply Kd.R_alloc|apply Kd.R_drewN|apply Kd.R_drew));exact HO530.out) hb);have n2_:=aMx16 (Kd.R_below (by (with_reducible repeat (first|apply Kd.R_alloc|apply Kd.R_drewN|apply Kd.R_drew));exact HO537.out) hb);have n3_:=aMx16 (Kd.R_below (by (with_reducible repeat (first|apply Kd.R_alloc|apply Kd.R_drewN|apply Kd.R_drew));exact HO541.out) hb);have n4_:=aMx16 (Kd.R_below (by (with_reducible repeat (first|apply Kd.R_alloc|apply Kd.R_drewN|apply Kd.R_drew));exact HO545.out) hb);have n5_:=aMx16 (Kd.R_below (by (with_reducible repeat (first|apply Kd.R_alloc|apply Kd.R_drewN|apply Kd.R_drew));exact HO548.out) hb);have n6_:=aMx16 (blk_below (g:=gb522) (o:=.cells #[.slice A0_0 l0_0.length c0_0,.slice A0_1 l0_1.length c0_1] 25 (0,0)) (by (with_reducible repeat (first|refine blk_drewN ?_ _|refine blk_drew ?_|refine blk_alloc ?_ _));exact BK522.out) hb);have n7_:=aMx16 (blk_below (g:=gb532) (o:=.cells #[.slice Ao21 t525.length co21,.slice Ao24 t528.length co24] 25 (0,0)) (by (with_reducible repeat (first|refine blk_drewN ?_ _|refine blk_drew ?_|refine blk_alloc ?_ _));exact BK532.out) hb);have n8_:=aMx16 (below_step (by repeat (first|(with_reducible first|exact HB.out|apply below_alloc|apply pw_below_drewN|apply below_drew1|refine below_set ?_ GE522.out|refine below_set ?_ GE532.out)|exact HB.out)) hb);clear HO527;clear HO530;clear HO537;clear HO541;clear HO545;clear HO548;clear BK522;clear BK532;clear HB;have HO527:=n0_;have HO530:=n1_;have HO537:=n2_;have HO541:=n3_;have HO545:=n4_;have HO548:=n5_;have BK522:=n6_;have BK532:=n7_;have HB:=n8_;clear n0_ n1_ n2_ n3_ n4_ n5_ n6_ n7_ n8_;(try clear hb);(try clear hb2);(try clear hk);(try clear hi);obtain ⟨Ao44,co44,eo44⟩:=Kd.R_slice HO545.out;subst eo44;have hcz45_0 : w43.cell? ⟨gb522,0,none⟩ = some (.slice A0_0 l0_0.length c0_0):=(blk_cell BK522.out 0).trans rfl;have hcz45_1 : w43.cell? ⟨gb522,1,none⟩ = some (.slice A0_1 l0_1.length c0_1):=(blk_cell BK522.out 1).trans rfl;have hfz45_0:=blk_frozen BK522.out 0;have hfz45_1:=blk_frozen BK522.out 1;obtain ⟨Ao46,co46,eo46⟩:=Kd.R_slice HO548.out;subst eo46;have hcz47_0 : w43.cell? ⟨gb532,0,none⟩ = some (.slice Ao21 t525.length co21):=(blk_cell BK532.out 0).trans rfl;have hcz47_1 : w43.cell? ⟨gb532,1,none⟩ = some (.slice Ao24 t528.length co24):=(blk_cell BK532.out 1).trans rfl;have hfz47_0:=blk_frozen BK532.out 0;have hfz47_1:=blk_frozen BK532.out 1))
          go_meet
          case rel => exact ⟨_,(((t525.length : Int) != (l0_0.length : Int))),(by first | rfl | (simp;done) | (simp [*];done) | (simp [wrap64];done)),H',⟨by first | omega | exact Nat.le_refl _⟩,⟨by (with_reducible repeat (first | apply Kd.R_alloc | apply Kd.R_drewN | apply Kd.R_drew));exact HO545.out⟩,⟨by (with_reducible repeat (first | apply Kd.R_alloc | apply Kd.R_drewN | apply Kd.R_drew));exact HO548.out⟩,⟨by (with_reducible repeat (first | apply Kd.R_alloc | apply Kd.R_drewN | apply Kd.R_drew));exact HO527.out⟩,⟨by (with_reducible repeat (first | apply Kd.R_alloc | apply Kd.R_drewN | apply Kd.R_drew));exact HO530.out⟩,⟨by (with_reducible repeat (first | refine blk_drewN ?_ _ | refine blk_drew ?_ | refine blk_alloc ?_ _));exact BK522.out⟩,⟨by (with_reducible repeat (first | refine blk_drewN ?_ _ | refine blk_drew ?_ | refine blk_alloc ?_ _));exact BK532.out⟩,⟨by repeat (first | (with_reducible first | exact HB.out | apply below_alloc | apply pw_below_drewN | apply below_drew1 | refine below_set ?_ GE522.out | refine below_set ?_ GE532.out) | exact HB.out)⟩⟩
         ·rw [if_neg c38] at H
          have c38b0 : ((t528.length : Int) == (l0_1.length : Int)) = false:=beq_eq_false_iff_ne.mpr c38
          have c38b1 : ((t528.length : Int) != (l0_1.length : Int)) = true:=bne_iff_ne.mpr c38
          have c38b2 : (t528.length == l0_1.length) = false:=by first | simpa using c38 | (simp at c38 ⊢;omega)
          have H':=aMx16 H
          clear H
          obtain ⟨Ao48,co48,eo48⟩:=Kd.R_slice HO537.out
          subst eo48
          obtain ⟨Ao49,co49,eo49⟩:=Kd.R_slice HO541.out
          subst eo49
          go_wp2_with (first|(go_at_call 23;(with_reducible refine (lapidaryref11_SameSteps.calls k _ _ t535 _ _ t539 true _ ?side1 ?side2 ?side3 ?side4 A32.out).mono ?_);(case side1 => repeat (first|exact (Kd.R_reads' HO537.out).2.2|(with_reducible first|refine Kd.C_alloc ?_ _|refine Kd.C_drewN ?_ _|refine Kd.C_drew ?_)));(case side2 => exact (Kd.R_reads' HO537.out).2.1);(case side3 => repeat (first|exact (Kd.R_reads' HO541.out).2.2|(with_reducible first|refine Kd.C_alloc ?_ _|refine Kd.C_drewN ?_ _|refine Kd.C_drew ?_)));(case side4 => exact (Kd.R_reads' HO541.out).2.1);rintro e w' ⟨rfl,⟨nd,rfl⟩⟩;have hnb50:=NB532_522.out;have hnc50:=NB522_532.out;have hcz51_0 : w30.cell? ⟨gb532,0,none⟩ = some (.slice Ao21 t525.length co21):=(blk_cell BK532.out 0).trans rfl;have hcz51_1 : w30.cell? ⟨gb532,1,none⟩ = some (.slice Ao24 t528.length co24):=(blk_cell BK532.out 1).trans rfl;have hfz51_0:=blk_frozen BK532.out 0;have hfz51_1:=blk_frozen BK532.out 1)|(go_at_call 30;(with_reducible refine (walk_Is.calls k _ _ t525 _ _ t528 true _ ?side1 ?side2 ?side3 ?side4 ?sideG A34.out).mono ?_);(case sideG => exact Kd.C_below HG.out (by repeat (first|(with_reducible first|exact HB.out|apply below_alloc|apply pw_below_drewN|apply below_drew1|refine below_set ?_ GE522.out|refine below_set ?_ GE532.out)|exact HB.out)));(case side1 => repeat (first|exact (Kd.R_reads' HO527.out).2.2|(with_reducible first|refine Kd.C_alloc ?_ _|refine Kd.C_drewN ?_ _|refine Kd.C_drew ?_)));(case side2 => exact (Kd.R_reads' HO527.out).2.1);(case side3 => repeat (first|exact (Kd.R_reads' HO530.out).2.2|(with_reducible first|refine Kd.C_alloc ?_ _|refine Kd.C_drewN ?_ _|refine Kd.C_drew ?_)));(case side4 => exact (Kd.R_reads' HO530.out).2.1);rintro e w52 ⟨rfl,hb⟩;have n0_:=aMx16 (Kd.R_below (by (with_reducible repeat (first|apply Kd.R_alloc|apply Kd.R_drewN|apply Kd.R_drew));exact HO527.out) hb);have n1_:=aMx16 (Kd.R_below (by (with_reducible repeat (first|apply Kd.R_alloc|apply Kd.R_drewN|apply Kd.R_drew));exact HO530.out) hb);have n2_:=aMx16 (Kd.R_below (by (with_reducible repeat (first|apply Kd.R_alloc|apply Kd.R_drewN|apply Kd.R_drew));exact HO537.out) hb);have n3_:=aMx16 (Kd.R_below (by (with_reducible repeat (first|apply Kd.R_alloc|apply Kd.R_drewN|apply Kd.R_drew));exact HO541.out) hb);have n4_:=aMx16 (Kd.R_below (by (with_reducible repeat (first|apply Kd.R_alloc|apply Kd.R_drewN|apply Kd.R_drew));exact HO545.out) hb);have n5_:=aMx16 (Kd.R_below (by (with_reducible repeat (first|apply Kd.R_alloc|apply Kd.R_drewN|apply Kd.R_drew));exact HO548.out) hb);have n6_:=aMx16 (blk_below (g:=gb522) (o:=.cells #[.slice A0_0 l0_0.length c0_0,.slice A0_1 l0_1.length c0_1] 25 (0,0)) (by (with_reducible repeat (first|refine blk_drewN ?_ _|refine blk_drew ?_|refine blk_alloc ?_ _));exact BK522.out) hb);have n7_:=aMx16 (blk_below (g:=gb532) (o:=.cells #[.slice Ao21 t525.length co21,.slice Ao24 t528.length co24] 25 (0,0)) (by (with_reducible repeat (first|refine blk_drewN ?_ _|refine blk_drew ?_|refine blk_alloc ?_ _));exact BK532.out) hb);have n8_:=aMx16 (below_step (by repeat (first|(with_reducible first|exact HB.out|apply below_alloc|apply pw_below_drewN|apply below_drew1|refine below_set ?_ GE522.out|refine below_set ?_ GE532.out)|exact HB.out)) hb);clear HO527;clear HO530;clear HO537;clear HO541;clear HO545;clear HO548;clear BK522;clear BK532;clear HB;have HO527:=n0_;have HO530:=n1_;have HO537:=n2_;have HO541:=n3_;have HO545:=n4_;have HO548:=n5_;have BK522:=n6_;have BK532:=n7_;have HB:=n8_;clear n0_ n1_ n2_ n3_ n4_ n5_ n6_ n7_ n8_;(try clear hb);(try clear hb2);(try clear hk);(try clear hi);obtain ⟨Ao53,co53,eo53⟩:=Kd.R_slice HO545.out;subst eo53;have hcz54_0 : w52.cell? ⟨gb522,0,none⟩ = some (.slice A0_0 l0_0.length c0_0):=(blk_cell BK522.out 0).trans rfl;have hcz54_1 : w52.cell? ⟨gb522,1,none⟩ = some (.slice A0_1 l0_1.length c0_1):=(blk_cell BK522.out 1).trans rfl;have hfz54_0:=blk_frozen BK522.out 0;have hfz54_1:=blk_frozen BK522.out 1;obtain ⟨Ao55,co55,eo55⟩:=Kd.R_slice HO548.out;subst eo55;have hcz56_0 : w52.cell? ⟨gb532,0,none⟩ = some (.slice Ao21 t525.length co21):=(blk_cell BK532.out 0).trans rfl;have hcz56_1 : w52.cell? ⟨gb532,1,none⟩ = some (.slice Ao24 t528.length co24):=(blk_cell BK532.out 1).trans rfl;have hfz56_0:=blk_frozen BK532.out 0;have hfz56_1:=blk_frozen BK532.out 1))
          go_meet
          case rel => exact ⟨_,(true),(by first | rfl | (simp;done) | (simp [*];done) | (simp [wrap64];done)),H',⟨by first | omega | exact Nat.le_refl _⟩,⟨by (with_reducible repeat (first | apply Kd.R_alloc | apply Kd.R_drewN | apply Kd.R_drew));exact HO545.out⟩,⟨by (with_reducible repeat (first | apply Kd.R_alloc | apply Kd.R_drewN | apply Kd.R_drew));exact HO548.out⟩,⟨by (with_reducible repeat (first | apply Kd.R_alloc | apply Kd.R_drewN | apply Kd.R_drew));exact HO527.out⟩,⟨by (with_reducible repeat (first | apply Kd.R_alloc | apply Kd.R_drewN | apply Kd.R_drew));exact HO530.out⟩,⟨by (with_reducible repeat (first | refine blk_drewN ?_ _ | refine blk_drew ?_ | refine blk_alloc ?_ _));exact BK522.out⟩,⟨by (with_reducible repeat (first | refine blk_drewN ?_ _ | refine blk_drew ?_ | refine blk_alloc ?_ _));exact BK532.out⟩,⟨by repeat (first | (with_reducible first | exact HB.out | apply below_alloc | apply pw_below_drewN | apply below_drew1 | refine below_set ?_ GE522.out | refine below_set ?_ GE532.out) | exact HB.out)⟩⟩
        ·rw [if_neg c37] at H
         have c37b0 : ((t546.length : Int) == (l0_1.length : Int)) = false:=beq_eq_false_iff_ne.mpr c37
         have c37b1 : ((t546.length : Int) != (l0_1.length : Int)) = true:=bne_iff_ne.mpr c37
         have c37b2 : (t546.length == l0_1.length) = false:=by first | simpa using c37 | (simp at c37 ⊢;omega)
         have H':=aMx16 H
         clear H
         obtain ⟨Ao57,co57,eo57⟩:=Kd.R_slice HO537.out
         subst eo57
         obtain ⟨Ao58,co58,eo58⟩:=Kd.R_slice HO541.out
         subst eo58
         go_wp2_with (first|(go_at_call 23;(with_reducible refine (lapidaryref11_SameSteps.calls k _ _ t535 _ _ t539 true _ ?side1 ?side2 ?side3 ?side4 A32.out).mono ?_);(case side1 => repeat (first|exact (Kd.R_reads' HO537.out).2.2|(with_reducible first|refine Kd.C_alloc ?_ _|refine Kd.C_drewN ?_ _|refine Kd.C_drew ?_)));(case side2 => exact (Kd.R_reads' HO537.out).2.1);(case side3 => repeat (first|exact (Kd.R_reads' HO541.out).2.2|(with_reducible first|refine Kd.C_alloc ?_ _|refine Kd.C_drewN ?_ _|refine Kd.C_drew ?_)));(case side4 => exact (Kd.R_reads' HO541.out).2.1);rintro e w' ⟨rfl,⟨nd,rfl⟩⟩;have hnb59:=NB532_522.out;have hnc59:=NB522_532.out;have hcz60_0 : w30.cell? ⟨gb532,0,none⟩ = some (.slice Ao21 t525.length co21):=(blk_cell BK532.out 0).trans rfl;have hcz60_1 : w30.cell? ⟨gb532,1,none⟩ = some (.slice Ao24 t528.length co24):=(blk_cell BK532.out 1).trans rfl;have hfz60_0:=blk_frozen BK532.out 0;have hfz60_1:=blk_frozen BK532.out 1)|(go_at_call 30;(with_reducible refine (walk_Is.calls k _ _ t525 _ _ t528 true _ ?side1 ?side2 ?side3 ?side4 ?sideG A34.out).mono ?_);(case sideG => exact Kd.C_below HG.out (by repeat (first|(with_reducible first|exact HB.out|apply below_alloc|apply pw_below_drewN|apply below_drew1|refine below_set ?_ GE522.out|refine below_set ?_ GE532.out)|exact HB.out)));(case side1 => repeat (first|exact (Kd.R_reads' HO527.out).2.2|(with_reducible first|refine Kd.C_alloc ?_ _|refine Kd.C_drewN ?_ _|refine Kd.C_drew ?_)));(case side2 => exact (Kd.R_reads' HO527.out).2.1);(case side3 => repeat (first|exact (Kd.R_reads' HO530.out).2.2|(with_reducible first|refine Kd.C_alloc ?_ _|refine Kd.C_drewN ?_ _|refine Kd.C_drew ?_)));(case side4 => exact (Kd.R_reads' HO530.out).2.1);rintro e w61 ⟨rfl,hb⟩;have n0_:=aMx16 (Kd.R_below (by (with_reducible repeat (first|apply Kd.R_alloc|apply Kd.R_drewN|apply Kd.R_drew));exact HO527.out) hb);have n1_:=aMx16 (Kd.R_below (by (with_reducible repeat (first|apply Kd.R_alloc|apply Kd.R_drewN|apply Kd.R_drew));exact HO530.out) hb);have n2_:=aMx16 (Kd.R_below (by (with_reducible repeat (first|apply Kd.R_alloc|apply Kd.R_drewN|apply Kd.R_drew));exact HO537.out) hb);have n3_:=aMx16 (Kd.R_below (by (with_reducible repeat (first|apply Kd.R_alloc|apply Kd.R_drewN|apply Kd.R_drew));exact HO541.out) hb);have n4_:=aMx16 (Kd.R_below (by (with_reducible repeat (first|apply Kd.R_alloc|apply Kd.R_drewN|apply Kd.R_drew));exact HO545.out) hb);have n5_:=aMx16 (Kd.R_below (by (with_reducible repeat (first|apply Kd.R_alloc|apply Kd.R_drewN|apply Kd.R_drew));exact HO548.out) hb);have n6_:=aMx16 (blk_below (g:=gb522) (o:=.cells #[.slice A0_0 l0_0.length c0_0,.slice A0_1 l0_1.length c0_1] 25 (0,0)) (by (with_reducible repeat (first|refine blk_drewN ?_ _|refine blk_drew ?_|refine blk_alloc ?_ _));exact BK522.out) hb);have n7_:=aMx16 (blk_below (g:=gb532) (o:=.cells #[.slice Ao21 t525.length co21,.slice Ao24 t528.length co24] 25 (0,0)) (by (with_reducible repeat (first|refine blk_drewN ?_ _|refine blk_drew ?_|refine blk_alloc ?_ _));exact BK532.out) hb);have n8_:=aMx16 (below_step (by repeat (first|(with_reducible first|exact HB.out|apply below_alloc|apply pw_below_drewN|apply below_drew1|refine below_set ?_ GE522.out|refine below_set ?_ GE532.out)|exact HB.out)) hb);clear HO527;clear HO530;clear HO537;clear HO541;clear HO545;clear HO548;clear BK522;clear BK532;clear HB;have HO527:=n0_;have HO530:=n1_;have HO537:=n2_;have HO541:=n3_;have HO545:=n4_;have HO548:=n5_;have BK522:=n6_;have BK532:=n7_;have HB:=n8_;clear n0_ n1_ n2_ n3_ n4_ n5_ n6_ n7_ n8_;(try clear hb);(try clear hb2);(try clear hk);(try clear hi);obtain ⟨Ao62,co62,eo62⟩:=Kd.R_slice HO545.out;subst eo62;have hcz63_0 : w61.cell? ⟨gb522,0,none⟩ = some (.slice A0_0 l0_0.length c0_0):=(blk_cell BK522.out 0).trans rfl;have hcz63_1 : w61.cell? ⟨gb522,1,none⟩ = some (.slice A0_1 l0_1.length c0_1):=(blk_cell BK522.out 1).trans rfl;have hfz63_0:=blk_frozen BK522.out 0;have hfz63_1:=blk_frozen BK522.out 1;obtain ⟨Ao64,co64,eo64⟩:=Kd.R_slice HO548.out;subst eo64))
         go_meet
         case rel => exact ⟨_,(true),(by first | rfl | (simp;done) | (simp [*];done) | (simp [wrap64];done)),H',⟨by first | omega | exact Nat.le_refl _⟩,⟨by (with_reducible repeat (first | apply Kd.R_alloc | apply Kd.R_drewN | apply Kd.R_drew));exact HO545.out⟩,⟨by (with_reducible repeat (first | apply Kd.R_alloc | apply Kd.R_drewN | apply Kd.R_drew));exact HO548.out⟩,⟨by (with_reducible repeat (first | apply Kd.R_alloc | apply Kd.R_drewN | apply Kd.R_drew));exact HO527.out⟩,⟨by (with_reducible repeat (first | apply Kd.R_alloc | apply Kd.R_drewN | apply Kd.R_drew));exact HO530.out⟩,⟨by (with_reducible repeat (first | refine blk_drewN ?_ _ | refine blk_drew ?_ | refine blk_alloc ?_ _));exact BK522.out⟩,⟨by (with_reducible repeat (first | refine blk_drewN ?_ _ | refine blk_drew ?_ | refine blk_alloc ?_ _));exact BK532.out⟩,⟨by repeat (first | (with_reducible first | exact HB.out | apply below_alloc | apply pw_below_drewN | apply below_drew1 | refine below_set ?_ GE522.out | refine below_set ?_ GE532.out) | exact HB.out)⟩⟩
       ·rw [if_neg c36] at H
        have c36b0 : ((t543.length : Int) == (l0_0.length : Int)) = false:=beq_eq_false_iff_ne.mpr c36
        have c36b1 : ((t543.length : Int) != (l0_0.length : Int)) = true:=bne_iff_ne.mpr c36
        have c36b2 : (t543.length == l0_0.length) = false:=by first | simpa using c36 | (simp at c36 ⊢;omega)
        have H':=aMx16 H
        clear H
        obtain ⟨Ao65,co65,eo65⟩:=Kd.R_slice HO537.out
        subst eo65
        obtain ⟨Ao66,co66,eo66⟩:=Kd.R_slice HO541.out
        subst eo66
        go_wp2_with (first|(go_at_call 23;(with_reducible refine (lapidaryref11_SameSteps.calls k _ _ t535 _ _ t539 true _ ?side1 ?side2 ?side3 ?side4 A32.out).mono ?_);(case side1 => repeat (first|exact (Kd.R_reads' HO537.out).2.2|(with_reducible first|refine Kd.C_alloc ?_ _|refine Kd.C_drewN ?_ _|refine Kd.C_drew ?_)));(case side2 => exact (Kd.R_reads' HO537.out).2.1);(case side3 => repeat (first|exact (Kd.R_reads' HO541.out).2.2|(with_reducible first|refine Kd.C_alloc ?_ _|refine Kd.C_drewN ?_ _|refine Kd.C_drew ?_)));(case side4 => exact (Kd.R_reads' HO541.out).2.1);rintro e w' ⟨rfl,⟨nd,rfl⟩⟩;have hnb67:=NB532_522.out;have hnc67:=NB522_532.out;have hcz68_0 : w30.cell? ⟨gb532,0,none⟩ = some (.slice Ao21 t525.length co21):=(blk_cell BK532.out 0).trans rfl;have hcz68_1 : w30.cell? ⟨gb532,1,none⟩ = some (.slice Ao24 t528.length co24):=(blk_cell BK532.out 1).trans rfl;have hfz68_0:=blk_frozen BK532.out 0;have hfz68_1:=blk_frozen BK532.out 1)|(go_at_call 30;(with_reducible refine (walk_Is.calls k _ _ t525 _ _ t528 true _ ?side1 ?side2 ?side3 ?side4 ?sideG A34.out).mono ?_);(case sideG => exact Kd.C_below HG.out (by repeat (first|(with_reducible first|exact HB.out|apply below_alloc|apply pw_below_drewN|apply below_drew1|refine below_set ?_ GE522.out|refine below_set ?_ GE532.out)|exact HB.out)));(case side1 => repeat (first|exact (Kd.R_reads' HO527.out).2.2|(with_reducible first|refine Kd.C_alloc ?_ _|refine Kd.C_drewN ?_ _|refine Kd.C_drew ?_)));(case side2 => exact (Kd.R_reads' HO527.out).2.1);(case side3 => repeat (first|exact (Kd.R_reads' HO530.out).2.2|(with_reducible first|refine Kd.C_alloc ?_ _|refine Kd.C_drewN ?_ _|refine Kd.C_drew ?_)));(case side4 => exact (Kd.R_reads' HO530.out).2.1);rintro e w69 ⟨rfl,hb⟩;have n0_:=aMx16 (Kd.R_below (by (with_reducible repeat (first|apply Kd.R_alloc|apply Kd.R_drewN|apply Kd.R_drew));exact HO527.out) hb);have n1_:=aMx16 (Kd.R_below (by (with_reducible repeat (first|apply Kd.R_alloc|apply Kd.R_drewN|apply Kd.R_drew));exact HO530.out) hb);have n2_:=aMx16 (Kd.R_below (by (with_reducible repeat (first|apply Kd.R_alloc|apply Kd.R_drewN|apply Kd.R_drew));exact HO537.out) hb);have n3_:=aMx16 (Kd.R_below (by (with_reducible repeat (first|apply Kd.R_alloc|apply Kd.R_drewN|apply Kd.R_drew));exact HO541.out) hb);have n4_:=aMx16 (Kd.R_below (by (with_reducible repeat (first|apply Kd.R_alloc|apply Kd.R_drewN|apply Kd.R_drew));exact HO545.out) hb);have n5_:=aMx16 (Kd.R_below (by (with_reducible repeat (first|apply Kd.R_alloc|apply Kd.R_drewN|apply Kd.R_drew));exact HO548.out) hb);have n6_:=aMx16 (blk_below (g:=gb522) (o:=.cells #[.slice A0_0 l0_0.length c0_0,.slice A0_1 l0_1.length c0_1] 25 (0,0)) (by (with_reducible repeat (first|refine blk_drewN ?_ _|refine blk_drew ?_|refine blk_alloc ?_ _));exact BK522.out) hb);have n7_:=aMx16 (blk_below (g:=gb532) (o:=.cells #[.slice Ao21 t525.length co21,.slice Ao24 t528.length co24] 25 (0,0)) (by (with_reducible repeat (first|refine blk_drewN ?_ _|refine blk_drew ?_|refine blk_alloc ?_ _));exact BK532.out) hb);have n8_:=aMx16 (below_step (by repeat (first|(with_reducible first|exact HB.out|apply below_alloc|apply pw_below_drewN|apply below_drew1|refine below_set ?_ GE522.out|refine below_set ?_ GE532.out)|exact HB.out)) hb);clear HO527;clear HO530;clear HO537;clear HO541;clear HO545;clear HO548;clear BK522;clear BK532;clear HB;have HO527:=n0_;have HO530:=n1_;have HO537:=n2_;have HO541:=n3_;have HO545:=n4_;have HO548:=n5_;have BK522:=n6_;have BK532:=n7_;have HB:=n8_;clear n0_ n1_ n2_ n3_ n4_ n5_ n6_ n7_ n8_;(try clear hb);(try clear hb2);(try clear hk);(try clear hi);obtain ⟨Ao70,co70,eo70⟩:=Kd.R_slice HO545.out;subst eo70;have hcz71_0 : w69.cell? ⟨gb522,0,none⟩ = some (.slice A0_0 l0_0.length c0_0):=(blk_cell BK522.out 0).trans rfl;have hcz71_1 : w69.cell? ⟨gb522,1,none⟩ = some (.slice A0_1 l0_1.length c0_1):=(blk_cell BK522.out 1).trans rfl;have hfz71_0:=blk_frozen BK522.out 0;have hfz71_1:=blk_frozen BK522.out 1))
        go_meet
        case rel => exact ⟨_,(true),(by first | rfl | (simp;done) | (simp [*];done) | (simp [wrap64];done)),H',⟨by first | omega | exact Nat.le_refl _⟩,⟨by (with_reducible repeat (first | apply Kd.R_alloc | apply Kd.R_drewN | apply Kd.R_drew));exact HO545.out⟩,⟨by (with_reducible repeat (first | apply Kd.R_alloc | apply Kd.R_drewN | apply Kd.R_drew));exact HO548.out⟩,⟨by (with_reducible repeat (first | apply Kd.R_alloc | apply Kd.R_drewN | apply Kd.R_drew));exact HO527.out⟩,⟨by (with_reducible repeat (first | apply Kd.R_alloc | apply Kd.R_drewN | apply Kd.R_drew));exact HO530.out⟩,⟨by (with_reducible repeat (first | refine blk_drewN ?_ _ | refine blk_drew ?_ | refine blk_alloc ?_ _));exact BK522.out⟩,⟨by (with_reducible repeat (first | refine blk_drewN ?_ _ | refine blk_drew ?_ | refine blk_alloc ?_ _));exact BK532.out⟩,⟨by repeat (first | (with_reducible first | exact HB.out | apply below_alloc | apply pw_below_drewN | apply below_drew1 | refine below_set ?_ GE522.out | refine below_set ?_ GE532.out) | exact HB.out)⟩⟩
      ·replace c35:=Bool.eq_false_iff.mpr c35
       subst c35
       have H1 : (lapidarylaw11_WalkOnce.j0 k t543 t546 true l0_0 l0_1 t525 t528) = some r:=by rw [if_neg (show ¬ (false = true) by decide)] at H;exact H
       clear H
       have H:=H1
       clear H1
       have H':=aMx16 H
       clear H
       obtain ⟨Ao72,co72,eo72⟩:=Kd.R_slice HO537.out
       subst eo72
       obtain ⟨Ao73,co73,eo73⟩:=Kd.R_slice HO541.out
       subst eo73
       go_wp2_with (first|(go_at_call 23;(with_reducible refine (lapidaryref11_SameSteps.calls k _ _ t535 _ _ t539 true _ ?side1 ?side2 ?side3 ?side4 A32.out).mono ?_);(case side1 => repeat (first|exact (Kd.R_reads' HO537.out).2.2|(with_reducible first|refine Kd.C_alloc ?_ _|refine Kd.C_drewN ?_ _|refine Kd.C_drew ?_)));(case side2 => exact (Kd.R_reads' HO537.out).2.1);(case side3 => repeat (first|exact (Kd.R_reads' HO541.out).2.2|(with_reducible first|refine Kd.C_alloc ?_ _|refine Kd.C_drewN ?_ _|refine Kd.C_drew ?_)));(case side4 => exact (Kd.R_reads' HO541.out).2.1);rintro e w' ⟨rfl,⟨nd,rfl⟩⟩;have hnb74:=NB532_522.out;have hnc74:=NB522_532.out;have hcz75_0 : w30.cell? ⟨gb532,0,none⟩ = some (.slice Ao21 t525.length co21):=(blk_cell BK532.out 0).trans rfl;have hcz75_1 : w30.cell? ⟨gb532,1,none⟩ = some (.slice Ao24 t528.length co24):=(blk_cell BK532.out 1).trans rfl;have hfz75_0:=blk_frozen BK532.out 0;have hfz75_1:=blk_frozen BK532.out 1)|(go_at_call 30;(with_reducible refine (walk_Is.calls k _ _ t525 _ _ t528 false _ ?side1 ?side2 ?side3 ?side4 ?sideG A34.out).mono ?_);(case sideG => exact Kd.C_below HG.out (by repeat (first|(with_reducible first|exact HB.out|apply below_alloc|apply pw_below_drewN|apply below_drew1|refine below_set ?_ GE522.out|refine below_set ?_ GE532.out)|exact HB.out)));(case side1 => repeat (first|exact (Kd.R_reads' HO527.out).2.2|(with_reducible first|refine Kd.C_alloc ?_ _|refine Kd.C_drewN ?_ _|refine Kd.C_drew ?_)));(case side2 => exact (Kd.R_reads' HO527.out).2.1);(case side3 => repeat (first|exact (Kd.R_reads' HO530.out).2.2|(with_reducible first|refine Kd.C_alloc ?_ _|refine Kd.C_drewN ?_ _|refine Kd.C_drew ?_)));(case side4 => exact (Kd.R_reads' HO530.out).2.1);rintro e w76 ⟨rfl,hb⟩;have n0_:=aMx16 (Kd.R_below (by (with_reducible repeat (first|apply Kd.R_alloc|apply Kd.R_drewN|apply Kd.R_drew));exact HO527.out) hb);have n1_:=aMx16 (Kd.R_below (by (with_reducible repeat (first|apply Kd.R_alloc|apply Kd.R_drewN|apply Kd.R_drew));exact HO530.out) hb);have n2_:=aMx16 (Kd.R_below (by (with_reducible repeat (first|apply Kd.R_alloc|apply Kd.R_drewN|apply Kd.R_drew));exact HO537.out) hb);have n3_:=aMx16 (Kd.R_below (by (with_reducible repeat (first|apply Kd.R_alloc|apply Kd.R_drewN|apply Kd.R_drew));exact HO541.out) hb);have n4_:=aMx16 (Kd.R_below (by (with_reducible repeat (first|apply Kd.R_alloc|apply Kd.R_drewN|apply Kd.R_drew));exact HO545.out) hb);have n5_:=aMx16 (Kd.R_below (by (with_reducible repeat (first|apply Kd.R_alloc|apply Kd.R_drewN|apply Kd.R_drew));exact HO548.out) hb);have n6_:=aMx16 (blk_below (g:=gb522) (o:=.cells #[.slice A0_0 l0_0.length c0_0,.slice A0_1 l0_1.length c0_1] 25 (0,0)) (by (with_reducible repeat (first|refine blk_drewN ?_ _|refine blk_drew ?_|refine blk_alloc ?_ _));exact BK522.out) hb);have n7_:=aMx16 (blk_below (g:=gb532) (o:=.cells #[.slice Ao21 t525.length co21,.slice Ao24 t528.length co24] 25 (0,0)) (by (with_reducible repeat (first|refine blk_drewN ?_ _|refine blk_drew ?_|refine blk_alloc ?_ _));exact BK532.out) hb);have n8_:=aMx16 (below_step (by repeat (first|(with_reducible first|exact HB.out|apply below_alloc|apply pw_below_drewN|apply below_drew1|refine below_set ?_ GE522.out|refine below_set ?_ GE532.out)|exact HB.out)) hb);clear HO527;clear HO530;clear HO537;clear HO541;clear HO545;clear HO548;clear BK522;clear BK532;clear HB;have HO527:=n0_;have HO530:=n1_;have HO537:=n2_;have HO541:=n3_;have HO545:=n4_;have HO548:=n5_;have BK522:=n6_;have BK532:=n7_;have HB:=n8_;clear n0_ n1_ n2_ n3_ n4_ n5_ n6_ n7_ n8_;(try clear hb);(try clear hb2);(try clear hk);(try clear hi)))
       go_meet
       case rel => exact ⟨_,(true),(by first | rfl | (simp;done) | (simp [*];done) | (simp [wrap64];done)),H',⟨by first | omega | exact Nat.le_refl _⟩,⟨by (with_reducible repeat (first | apply Kd.R_alloc | apply Kd.R_drewN | apply Kd.R_drew));exact HO545.out⟩,⟨by (with_reducible repeat (first | apply Kd.R_alloc | apply Kd.R_drewN | apply Kd.R_drew));exact HO548.out⟩,⟨by (with_reducible repeat (first | apply Kd.R_alloc | apply Kd.R_drewN | apply Kd.R_drew));exact HO527.out⟩,⟨by (with_reducible repeat (first | apply Kd.R_alloc | apply Kd.R_drewN | apply Kd.R_drew));exact HO530.out⟩,⟨by (with_reducible repeat (first | refine blk_drewN ?_ _ | refine blk_drew ?_ | refine blk_alloc ?_ _));exact BK522.out⟩,⟨by (with_reducible repeat (first | refine blk_drewN ?_ _ | refine blk_drew ?_ | refine blk_alloc ?_ _));exact BK532.out⟩,⟨by repeat (first | (with_reducible first | exact HB.out | apply below_alloc | apply pw_below_drewN | apply below_drew1 | refine below_set ?_ GE522.out | refine below_set ?_ GE532.out) | exact HB.out)⟩⟩
     ·replace c33:=Bool.eq_false_iff.mpr c33
      subst c33
      have H1 : (lapidarylaw11_WalkOnce.j0 k t543 t546 true l0_0 l0_1 t525 t528) = some r:=by rw [if_neg (show ¬ (false = true) by decide)] at H;exact H
      clear H
      have H:=H1
      clear H1
      have H':=aMx16 H
      clear H
      obtain ⟨Ao77,co77,eo77⟩:=Kd.R_slice HO537.out
      subst eo77
      obtain ⟨Ao78,co78,eo78⟩:=Kd.R_slice HO541.out
      subst eo78
      go_wp2_with (first|(go_at_call 23;(with_reducible refine (lapidaryref11_SameSteps.calls k _ _ t535 _ _ t539 false _ ?side1 ?side2 ?side3 ?side4 A32.out).mono ?_);(case side1 => repeat (first|exact (Kd.R_reads' HO537.out).2.2|(with_reducible first|refine Kd.C_alloc ?_ _|refine Kd.C_drewN ?_ _|refine Kd.C_drew ?_)));(case side2 => exact (Kd.R_reads' HO537.out).2.1);(case side3 => repeat (first|exact (Kd.R_reads' HO541.out).2.2|(with_reducible first|refine Kd.C_alloc ?_ _|refine Kd.C_drewN ?_ _|refine Kd.C_drew ?_)));(case side4 => exact (Kd.R_reads' HO541.out).2.1);rintro e w' ⟨rfl,⟨nd,rfl⟩⟩))
      go_meet
      case rel => exact ⟨_,(true),(by first | rfl | (simp;done) | (simp [*];done) | (simp [wrap64];done)),H',⟨by first | omega | exact Nat.le_refl _⟩,⟨by (with_reducible repeat (first | apply Kd.R_alloc | apply Kd.R_drewN | apply Kd.R_drew));exact HO545.out⟩,⟨by (with_reducible repeat (first | apply Kd.R_alloc | apply Kd.R_drewN | apply Kd.R_drew));exact HO548.out⟩,⟨by (with_reducible repeat (first | apply Kd.R_alloc | apply Kd.R_drewN | apply Kd.R_drew));exact HO527.out⟩,⟨by (with_reducible repeat (first | apply Kd.R_alloc | apply Kd.R_drewN | apply Kd.R_drew));exact HO530.out⟩,⟨by (with_reducible repeat (first | refine blk_drewN ?_ _ | refine blk_drew ?_ | refine blk_alloc ?_ _));exact BK522.out⟩,⟨by (with_reducible repeat (first | refine blk_drewN ?_ _ | refine blk_drew ?_ | refine blk_alloc ?_ _));exact BK532.out⟩,⟨by repeat (first | (with_reducible first | exact HB.out | apply below_alloc | apply pw_below_drewN | apply below_drew1 | refine below_set ?_ GE522.out | refine below_set ?_ GE532.out) | exact HB.out)⟩⟩
    ·rw [if_neg c31] at H
     have c31b0 : (t542 == 0) = false:=beq_eq_false_iff_ne.mpr c31
     have c31b1 : (t542 != 0) = true:=bne_iff_ne.mpr c31
     (first | rw [c31b0] | (simp only [i64_w,i32_w];rw [c31b0]) | skip)
     have H':=aMx16 H
     clear H
     go_wp2
     go_meet
     case rel => exact ⟨_,(true),(by first | rfl | (simp;done) | (simp [*];done) | (simp [wrap64];done)),H',⟨by first | omega | exact Nat.le_refl _⟩,⟨by (with_reducible repeat (first | apply Kd.R_alloc | apply Kd.R_drewN | apply Kd.R_drew));exact HO545.out⟩,⟨by (with_reducible repeat (first | apply Kd.R_alloc | apply Kd.R_drewN | apply Kd.R_drew));exact HO548.out⟩,⟨by (with_reducible repeat (first | apply Kd.R_alloc | apply Kd.R_drewN | apply Kd.R_drew));exact HO527.out⟩,⟨by (with_reducible repeat (first | apply Kd.R_alloc | apply Kd.R_drewN | apply Kd.R_drew));exact HO530.out⟩,⟨by (with_reducible repeat (first | refine blk_drewN ?_ _ | refine blk_drew ?_ | refine blk_alloc ?_ _));exact BK522.out⟩,⟨by (with_reducible repeat (first | refine blk_drewN ?_ _ | refine blk_drew ?_ | refine blk_alloc ?_ _));exact BK532.out⟩,⟨by repeat (first | (with_reducible first | exact HB.out | apply below_alloc | apply pw_below_drewN | apply below_drew1 | refine below_set ?_ GE522.out | refine below_set ?_ GE532.out) | exact HB.out)⟩⟩
   case rest =>
    clear HC14
    (try clear c1);(try clear c2);(try clear p2);(try clear c3);(try clear c4);(try clear c5);(try clear c6);(try clear c7);(try clear c10);(try clear c10b0);(try clear c10b1);(try clear c18);(try clear c19);(try clear c20);(try clear c21);(try clear c22);(try clear c27);(try clear c31);(try clear c31b0);(try clear c31b1);(try clear c33);(try clear c35);(try clear c36);(try clear c36b0);(try clear c36b1);(try clear c36b2);(try clear c37);(try clear c37b0);(try clear c37b1);(try clear c37b2);(try clear c38);(try clear c38b0);(try clear c38b1);(try clear c38b2);(try clear c41);(try clear c50);(try clear c59);(try clear c67);(try clear c74);(try clear hcz16_0);(try clear hcz16_1);(try clear hcz18_0);(try clear hcz18_1);(try clear hcz23_0);(try clear hcz23_1);(try clear hcz25_0);(try clear hcz25_1);(try clear hcz27_0);(try clear hcz27_1);(try clear hcz29_0);(try clear hcz29_1);(try clear hcz42_0);(try clear hcz42_1);(try clear hcz45_0);(try clear hcz45_1);(try clear hcz47_0);(try clear hcz47_1);(try clear hcz51_0);(try clear hcz51_1);(try clear hcz54_0);(try clear hcz54_1);(try clear hcz56_0);(try clear hcz56_1);(try clear hcz60_0);(try clear hcz60_1);(try clear hcz63_0);(try clear hcz63_1);(try clear hcz68_0);(try clear hcz68_1);(try clear hcz6_0);(try clear hcz6_1);(try clear hcz71_0);(try clear hcz71_1);(try clear hcz75_0);(try clear hcz75_1);(try clear hfz16_0);(try clear hfz16_1);(try clear hfz18_0);(try clear hfz18_1);(try clear hfz23_0);(try clear hfz23_1);(try clear hfz25_0);(try clear hfz25_1);(try clear hfz27_0);(try clear hfz27_1);(try clear hfz29_0);(try clear hfz29_1);(try clear hfz42_0);(try clear hfz42_1);(try clear hfz45_0);(try clear hfz45_1);(try clear hfz47_0);(try clear hfz47_1);(try clear hfz51_0);(try clear hfz51_1);(try clear hfz54_0);(try clear hfz54_1);(try clear hfz56_0);(try clear hfz56_1);(try clear hfz60_0);(try clear hfz60_1);(try clear hfz63_0);(try clear hfz63_1);(try clear hfz68_0);(try clear hfz68_1);(try clear hfz6_0);(try clear hfz6_1);(try clear hfz71_0);(try clear hfz71_1);(try clear hfz75_0);(try clear hfz75_1)
    obtain ⟨kq,x101_13,rfl,HA,HJ13,HO_9,HO_10,HO_533000,HO_533001,BK522,BK532,HB⟩:=hcut
    cases kq with
    | zero => exact absurd HA.out (by simp [lapidarylaw11_WalkOnce.j0])
    | succ kj13 =>
     have H:=HA.out
     clear HA
     simp only [lapidarylaw11_WalkOnce.j0] at H
     by_cases c79 : x101_13 = true
     ·subst c79
      have H1 : (some false) = some r:=by rw [if_pos rfl] at H;exact H
      exact absurd (Option.some.inj H1) (by rw [HRT.out];decide)
     ·replace c79:=Bool.eq_false_iff.mpr c79
      subst c79
      have H1 : (if 0 ≤ (l0_0.length : Int) then (if ((l0_0.length : Int) : Int).toNat ≤ 281474976710656 then (lapidarylaw11_WalkOnce.l0 kj13 t543 t546 (List.replicate ((l0_0.length : Int) : Int).toNat false) 0 l0_0 l0_1 t525 t528) else (none)) else (none)) = some r:=by rw [if_neg (show ¬ (false = true) by decide)] at H;exact H
      clear H
      have H:=H1
      clear H1
      by_cases c80 : 0 ≤ (l0_0.length : Int)
      ·rw [if_pos c80] at H
       have c80b0:=eq_true c80
       have c80b1 : decide (0 ≤ (l0_0.length : Int)) = true:=decide_eq_true c80
       clear c80
       by_cases c81 : ((l0_0.length : Int) : Int).toNat ≤ 281474976710656
       ·rw [if_pos c81] at H
        have c81b0:=eq_true c81
        have c81b1 : decide (((l0_0.length : Int) : Int).toNat ≤ 281474976710656) = true:=decide_eq_true c81
        clear c81
        obtain ⟨y552,hy552⟩ : ∃ y_ : List Bool,y_ = (List.replicate ((l0_0.length : Int) : Int).toNat false):=⟨_,rfl⟩
        replace H : (lapidarylaw11_WalkOnce.l0 kj13 t543 t546 y552 0 l0_0 l0_1 t525 t528) = some r:=by first | (rw [hy552];with_reducible exact H) | (have H2_:=(Option.bind_some _ _).symm.trans H;rw [hy552];with_reducible exact H2_) | (have H2_:=(Option.bind_some _ _).symm.trans H;with_reducible exact H2_) | with_reducible exact H | (rw [hy552];exact H) | exact H
        have Ny552:=aMx16 hy552
        clear hy552
        have H':=aMx16 H
        clear H
        have hnb82:=NB522_532.out
        have hnc82:=NB532_522.out
        have hcz83_0 : wc.cell? ⟨gb522,0,none⟩ = some (.slice A0_0 l0_0.length c0_0):=(blk_cell BK522.out 0).trans rfl
        have hcz83_1 : wc.cell? ⟨gb522,1,none⟩ = some (.slice A0_1 l0_1.length c0_1):=(blk_cell BK522.out 1).trans rfl
        have hfz83_0:=blk_frozen BK522.out 0
        have hfz83_1:=blk_frozen BK522.out 1
        go_wp2_with (first|((with_reducible refine gate_dst (N:=105) rfl ?_);(try (refine gate_guard (by rfl) ?_;dsimp only));refine Kd.R_make Kd.bool _ 4 rfl (N:=105) rfl 54 _ _ rfl (l0_0.length : Int) rfl rfl Tryd.underlying54 (.bool false) 1 info4 rfl (by decide) (by omega) false (ok:=fun _ => True) (okp:=fun _ => True) rfl (fun _ hk => hk) trivial (of_decide_eq_true (by first|(with_reducible assumption)|assumption)) (Nat.le_trans (Nat.mul_le_mul_right _ (of_decide_eq_true (by first|(with_reducible assumption)|assumption) : (l0_0.length : Int).toNat ≤ 281474976710656)) (by omega)) (Below.refl _ _) (Nat.le_refl _) ?_;intro v553 w84 ho85 hb hg_ hnew_;clear hg_ hnew_;(first|rw [← Ny552.out] at ho85|(simp only [Int.reduceToNat] at ho85;rw [← Ny552.out] at ho85));have n0_:=aMx16 (Kd.R_below (by (with_reducible repeat (first|apply Kd.R_alloc|apply Kd.R_drewN|apply Kd.R_drew));exact HO_9.out) hb);have n1_:=aMx16 (Kd.R_below (by (with_reducible repeat (first|apply Kd.R_alloc|apply Kd.R_drewN|apply Kd.R_drew));exact HO_10.out) hb);have n2_:=aMx16 (Kd.R_below (by (with_reducible repeat (first|apply Kd.R_alloc|apply Kd.R_drewN|apply Kd.R_drew));exact HO_533000.out) hb);have n3_:=aMx16 (Kd.R_below (by (with_reducible repeat (first|apply Kd.R_alloc|apply Kd.R_drewN|apply Kd.R_drew));exact HO_533001.out) hb);have n4_:=aMx16 (Kd.R_lower ho85 (below_size (by repeat (first|(with_reducible first|exact HB.out|apply below_alloc|apply pw_below_drewN|apply below_drew1|refine below_set ?_ GE522.out|refine below_set ?_ GE532.out)|exact HB.out))));have n5_:=aMx16 (blk_below (g:=gb522) (o:=.cells #[.slice A0_0 l0_0.length c0_0,.slice A0_1 l0_1.length c0_1] 25 (0,0)) (by (with_reducible repeat (first|refine blk_drewN ?_ _|refine blk_drew ?_|refine blk_alloc ?_ _));exact BK522.out) hb);have n6_:=aMx16 (blk_below (g:=gb532) (o:=.cells #[.slice Ao21 t525.length co21,.slice Ao24 t528.length co24] 25 (0,0)) (by (with_reducible repeat (first|refine blk_drewN ?_ _|refine blk_drew ?_|refine blk_alloc ?_ _));exact BK532.out) hb);have n7_:=aMx16 (below_step (by repeat (first|(with_reducible first|exact HB.out|apply below_alloc|apply pw_below_drewN|apply below_drew1|refine below_set ?_ GE522.out|refine below_set ?_ GE532.out)|exact HB.out)) hb);clear HO_9;clear HO_10;clear HO_533000;clear HO_533001;clear BK522;clear BK532;clear HB;have HO_9:=n0_;have HO_10:=n1_;have HO_533000:=n2_;have HO_533001:=n3_;have HO554:=n4_;have BK522:=n5_;have BK532:=n6_;have HB:=n7_;clear n0_ n1_ n2_ n3_ n4_ n5_ n6_ n7_;clear hb ho85))
        go_loopg [13] kj13 (fun kq v13 w' => ∃ (x12_2 : List Bool) (x13_2 : Int),v13 = .int .i64 x13_2 ∧ Aside0 (lapidarylaw11_WalkOnce.l0 kq t543 t546 x12_2 x13_2 l0_0 l0_1 t525 t528 = some r) ∧ Aside0 (kq ≤ kj13) ∧ Aside0 (Kd.R (Kd.int .i64) 3 w' w.heap.size (fun k_ => some k_ ≠ (v547 : Value).ownBlock) v544 t543) ∧ Aside0 (Kd.R (Kd.int .i64) 3 w' w.heap.size (fun k_ => some k_ ≠ (v544 : Value).ownBlock) v547 t546) ∧ Aside0 (Kd.R Kd.bool 4 w' w.heap.size (fun _ => True) v553 x12_2) ∧ Aside0 (Kd.R k46 46 w' w.heap.size (fun _ => True) (.slice Ao21 t525.length co21) t525) ∧ Aside0 (Kd.R k47 47 w' w.heap.size (fun _ => True) (.slice Ao24 t528.length co24) t528) ∧ Aside0 (w'.heap[gb522]? = some (.cells #[(.slice A0_0 l0_0.length c0_0),(.slice A0_1 l0_1.length c0_1)] 25 (0,0))) ∧ Aside0 (w'.heap[gb532]? = some (.cells #[(.slice Ao21 t525.length co21),(.slice Ao24 t528.length co24)] 25 (0,0))) ∧ Aside0 (Below w.heap.size w w'))
        case atStart => exact ⟨(y552),(0),(by first | rfl | (simp;done) | (simp [*];done) | (simp [wrap64];done)),H',⟨Nat.le_refl _⟩,⟨by (with_reducible repeat (first | apply Kd.R_alloc | apply Kd.R_drewN | apply Kd.R_drew));exact HO_9.out⟩,⟨by (with_reducible repeat (first | apply Kd.R_alloc | apply Kd.R_drewN | apply Kd.R_drew));exact HO_10.out⟩,⟨by (with_reducible repeat (first | apply Kd.R_alloc | apply Kd.R_drewN | apply Kd.R_drew));exact HO554.out⟩,⟨by (with_reducible repeat (first | apply Kd.R_alloc | apply Kd.R_drewN | apply Kd.R_drew));exact HO_533000.out⟩,⟨by (with_reducible repeat (first | apply Kd.R_alloc | apply Kd.R_drewN | apply Kd.R_drew));exact HO_533001.out⟩,⟨by (with_reducible repeat (first | refine blk_drewN ?_ _ | refine blk_drew ?_ | refine blk_alloc ?_ _));exact BK522.out⟩,⟨by (with_reducible repeat (first | refine blk_drewN ?_ _ | refine blk_drew ?_ | refine blk_alloc ?_ _));exact BK532.out⟩,⟨by repeat (first | (with_reducible first | exact HB.out | apply below_alloc | apply pw_below_drewN | apply below_drew1 | refine below_set ?_ GE522.out | refine below_set ?_ GE532.out) | exact HB.out)⟩⟩
        case round =>
         as_aux_lemma =>
          clear H'
          (try clear c1);(try clear c2);(try clear p2);(try clear c3);(try clear c4);(try clear c5);(try clear c6);(try clear c7);(try clear c8);(try clear c10);(try clear c10b0);(try clear c10b1);(try clear c18);(try clear c19);(try clear c20);(try clear c21);(try clear c22);(try clear c27);(try clear c31);(try clear c31b0);(try clear c31b1);(try clear c33);(try clear c35);(try clear c36);(try clear c36b0);(try clear c36b1);(try clear c36b2);(try clear c37);(try clear c37b0);(try clear c37b1);(try clear c37b2);(try clear c38);(try clear c38b0);(try clear c38b1);(try clear c38b2);(try clear c41);(try clear c50);(try clear c59);(try clear c67);(try clear c74);(try clear c79);(try clear c80);(try clear c80b0);(try clear c80b1);(try clear c81);(try clear c81b0);(try clear c81b1);(try clear c82);(try clear hcz16_0);(try clear hcz16_1);(try clear hcz18_0);(try clear hcz18_1);(try clear hcz23_0);(try clear hcz23_1);(try clear hcz25_0);(try clear hcz25_1);(try clear hcz27_0);(try clear hcz27_1);(try clear hcz29_0);(try clear hcz29_1);(try clear hcz42_0);(try clear hcz42_1);(try clear hcz45_0);(try clear hcz45_1);(try clear hcz47_0);(try clear hcz47_1);(try clear hcz51_0);(try clear hcz51_1);(try clear hcz54_0);(try clear hcz54_1);(try clear hcz56_0);(try clear hcz56_1);(try clear hcz60_0);(try clear hcz60_1);(try clear hcz63_0);(try clear hcz63_1);(try clear hcz68_0);(try clear hcz68_1);(try clear hcz6_0);(try clear hcz6_1);(try clear hcz71_0);(try clear hcz71_1);(try clear hcz75_0);(try clear hcz75_1);(try clear hcz83_0);(try clear hcz83_1);(try clear hfz16_0);(try clear hfz16_1);(try clear hfz18_0);(try clear hfz18_1);(try clear hfz23_0);(try clear hfz23_1);(try clear hfz25_0);(try clear hfz25_1);(try clear hfz27_0);(try clear hfz27_1);(try clear hfz29_0);(try clear hfz29_1);(try clear hfz42_0);(try clear hfz42_1);(try clear hfz45_0);(try clear hfz45_1);(try clear hfz47_0);(try clear hfz47_1);(try clear hfz51_0);(try clear hfz51_1);(try clear hfz54_0);(try clear hfz54_1);(try clear hfz56_0);(try clear hfz56_1);(try clear hfz60_0);(try clear hfz60_1);(try clear hfz63_0);(try clear hfz63_1);(try clear hfz68_0);(try clear hfz68_1);(try clear hfz6_0);(try clear hfz6_1);(try clear hfz71_0);(try clear hfz71_1);(try clear hfz75_0);(try clear hfz75_1);(try clear hfz83_0);(try clear hfz83_1);(try clear p2)
          obtain ⟨x12_2,x13_2,rfl,HA,HK2,HO_9,HO_10,HO_12,HO_533000,HO_533001,BK522,BK532,HB⟩:=hrel
          cases gk with
          | zero => exact absurd HA.out (by simp [lapidarylaw11_WalkOnce.l0])
          | succ k2 =>
           have H:=HA.out
           clear HA
           simp only [lapidarylaw11_WalkOnce.l0] at H
           by_cases c86 : x13_2 < (t543.length : Int)
           ·rw [if_pos c86] at H
            have c86b0 : decide (x13_2 < (t543.length : Int)) = true:=decide_eq_true c86
            clear c86
            by_cases c87 : 0 ≤ x13_2
            ·rw [if_pos c87] at H
             have c87b0 : decide (0 ≤ x13_2) = true:=decide_eq_true c87
             clear c87
             by_cases c88 : (rd t543 x13_2) < 0
             ·rw [if_pos c88] at H
              first | exact absurd (Option.some.inj H) (by rw [HRT.out];decide) | exact absurd H (by simp)
             ·rw [if_neg c88] at H
              have c88b0 : decide ((rd t543 x13_2) < 0) = false:=decide_eq_false c88
              clear c88
              by_cases c91 : (rd t543 x13_2) ≥ (l0_0.length : Int)
              ·rw [if_pos c91] at H
               first | exact absurd (Option.some.inj H) (by rw [HRT.out];decide) | exact absurd H (by simp)
              ·rw [if_neg c91] at H
               have c91b0 : decide ((l0_0.length : Int) ≤ (rd t543 x13_2)) = false:=decide_eq_false c91
               clear c91
               by_cases c94 : 0 ≤ (rd t543 x13_2)
               ·rw [if_pos c94] at H
                have c94b0 : decide (0 ≤ (rd t543 x13_2)) = true:=decide_eq_true c94
                clear c94
                by_cases c95 : (rd t543 x13_2) < (x12_2.length : Int)
                ·rw [if_pos c95] at H
                 have c95b0 : decide ((rd t543 x13_2) < (x12_2.length : Int)) = true:=decide_eq_true c95
                 clear c95
                 obtain ⟨bq96,hbq96⟩ : ∃ b_ : Bool,b_ = (rdOf false x12_2 (rd t543 x13_2)):=⟨_,rfl⟩
                 replace H : (if bq96 = true then (some false) else (if x13_2 < (t525.length : Int) then (if (rd t543 x13_2) < (l0_0.length : Int) then (if (!(((rd_T46 t525 x13_2).f0) == ((rd_T46 l0_0 (rd t543 x13_2)).f0)) || (!(((rd_T46 t525 x13_2).f1) == ((rd_T46 l0_0 (rd t543 x13_2)).f1)) || (!(((rd_T46 t525 x13_2).f2) == ((rd_T46 l0_0 (rd t543 x13_2)).f2))))) = true then (some false) else (lapidarylaw11_WalkOnce.l0 k2 t543 t546 (x12_2.set ((rd t543 x13_2) : Int).toNat true) (wrap64 (x13_2+1)) l0_0 l0_1 t525 t528)) else (none)) else (none))) = some r:=by rw [← hbq96] at H;exact H
                 have Nbq96:=aMx16 hbq96
                 clear hbq96
                 by_cases c97 : bq96 = true
                 ·subst c97
                  have H1 : (some false) = some r:=by rw [if_pos rfl] at H;exact H
                  exact absurd (Option.some.inj H1) (by rw [HRT.out];decide)
                 ·replace c97:=Bool.eq_false_iff.mpr c97
                  subst c97
                  have H1 : (if x13_2 < (t525.length : Int) then (if (rd t543 x13_2) < (l0_0.length : Int) then (if (!(((rd_T46 t525 x13_2).f0) == ((rd_T46 l0_0 (rd t543 x13_2)).f0)) || (!(((rd_T46 t525 x13_2).f1) == ((rd_T46 l0_0 (rd t543 x13_2)).f1)) || (!(((rd_T46 t525 x13_2).f2) == ((rd_T46 l0_0 (rd t543 x13_2)).f2))))) = true then (some false) else (lapidarylaw11_WalkOnce.l0 k2 t543 t546 (x12_2.set ((rd t543 x13_2) : Int).toNat true) (wrap64 (x13_2+1)) l0_0 l0_1 t525 t528)) else (none)) else (none)) = some r:=by rw [if_neg (show ¬ (false = true) by decide)] at H;exact H
                  clear H
                  have H:=H1
                  clear H1
                  by_cases c101 : x13_2 < (t525.length : Int)
                  ·rw [if_pos c101] at H
                   have c101b0 : decide (x13_2 < (t525.length : Int)) = true:=decide_eq_true c101
                   clear c101
                   by_cases c102 : (rd t543 x13_2) < (l0_0.length : Int)
                   ·rw [if_pos c102] at H
                    have c102b0 : decide ((rd t543 x13_2) < (l0_0.length : Int)) = true:=decide_eq_true c102
                    clear c102
                    by_cases c103 : (!(((rd_T46 t525 x13_2).f0) == ((rd_T46 l0_0 (rd t543 x13_2)).f0)) || (!(((rd_T46 t525 x13_2).f1) == ((rd_T46 l0_0 (rd t543 x13_2)).f1)) || (!(((rd_T46 t525 x13_2).f2) == ((rd_T46 l0_0 (rd t543 x13_2)).f2))))) = true
                    ·rw [if_pos c103] at H
                     first | exact absurd (Option.some.inj H) (by rw [HRT.out];decide) | exact absurd H (by simp)
                    ·rw [if_neg c103] at H
                     have c103b0 : (!(((rd_T46 t525 x13_2).f0) == ((rd_T46 l0_0 (rd t543 x13_2)).f0)) || (!(((rd_T46 t525 x13_2).f1) == ((rd_T46 l0_0 (rd t543 x13_2)).f1)) || (!(((rd_T46 t525 x13_2).f2) == ((rd_T46 l0_0 (rd t543 x13_2)).f2))))) = false:=by simpa using c103
                     clear c103
                     obtain ⟨y563,hy563⟩ : ∃ y_ : List Bool,y_ = (x12_2.set ((rd t543 x13_2) : Int).toNat true):=⟨_,rfl⟩
                     replace H : (lapidarylaw11_WalkOnce.l0 k2 t543 t546 y563 (wrap64 (x13_2+1)) l0_0 l0_1 t525 t528) = some r:=by first | (rw [hy563];with_reducible exact H) | (have H2_:=(Option.bind_some _ _).symm.trans H;rw [hy563];with_reducible exact H2_) | (have H2_:=(Option.bind_some _ _).symm.trans H;with_reducible exact H2_) | with_reducible exact H | (rw [hy563];exact H) | exact H
                     have Ny563:=aMx16 hy563
                     clear hy563
                     have H':=aMx16 H
                     clear H
                     obtain ⟨Ao108,co108,eo108⟩:=Kd.R_slice HO_9.out
                     subst eo108
                     try go_wp2
                     have n0_:=aMx16 (Kd.R_drew HO_9.out)
                     have n1_:=aMx16 (Kd.R_drew HO_10.out)
                     have n2_:=aMx16 (Kd.R_drew HO_12.out)
                     have n3_:=aMx16 (Kd.R_drew HO_533000.out)
                     have n4_:=aMx16 (Kd.R_drew HO_533001.out)
                     have n5_:=aMx16 (blk_drew BK522.out)
                     have n6_:=aMx16 (blk_drew BK532.out)
                     have n7_:=aMx16 (below_drew1 HB.out)
                     clear HO_9
                     clear HO_10
                     clear HO_12
                     clear HO_533000
                     clear HO_533001
                     clear BK522
                     clear BK532
                     clear HB
                     have HO_9:=n0_
                     have HO_10:=n1_
                     have HO_12:=n2_
                     have HO_533000:=n3_
                     have HO_533001:=n4_
                     have BK522:=n5_
                     have BK532:=n6_
                     have HB:=n7_
                     clear n0_ n1_ n2_ n3_ n4_ n5_ n6_ n7_
                     have p555 : 0 ≤ (x13_2 : Int):=of_decide_eq_true (by first | (with_reducible assumption) | assumption)
                     have q555 : x13_2 < (t543.length : Int):=of_decide_eq_true (by first | (with_reducible assumption) | assumption)
                     obtain ⟨ad555,e555,hx555_0⟩:=Kd.at_int (Kd.R_reads' HO_9.out).2.2 x13_2 p555 q555
                     cases e555
                     replace p555:=eq_true p555
                     replace q555:=eq_true q555
                     have p556 : 0 ≤ (x13_2 : Int):=of_decide_eq_true (by first | (with_reducible assumption) | assumption)
                     have q556 : x13_2 < (t543.length : Int):=of_decide_eq_true (by first | (with_reducible assumption) | assumption)
                     obtain ⟨ad556,e556,hx556_0⟩:=Kd.at_int (Kd.R_reads' HO_9.out).2.2 x13_2 p556 q556
                     obtain rfl : ad555 = ad556:=(by injection e556)
                     replace p556:=eq_true p556
                     replace q556:=eq_true q556
                     have p557 : 0 ≤ (x13_2 : Int):=of_decide_eq_true (by first | (with_reducible assumption) | assumption)
                     have q557 : x13_2 < (t543.length : Int):=of_decide_eq_true (by first | (with_reducible assumption) | assumption)
                     obtain ⟨ad557,e557,hx557_0⟩:=Kd.at_int (Kd.R_reads' HO_9.out).2.2 x13_2 p557 q557
                     obtain rfl : ad555 = ad557:=(by injection e557)
                     replace p557:=eq_true p557
                     replace q557:=eq_true q557
                     obtain ⟨Ao110,co110,eo110⟩:=Kd.R_slice HO_12.out
                     (first | subst eo110 | (injection eo110 with f1_ f2_ f3_;have f4_:=f1_.symm;have f5_:=f3_.symm;clear f1_ f2_ f3_;subst f4_;subst f5_))
                     have p558 : 0 ≤ ((rd t543 x13_2) : Int):=of_decide_eq_true (by first | (with_reducible assumption) | assumption)
                     have q558 : (rd t543 x13_2) < (x12_2.length : Int):=of_decide_eq_true (by first | (with_reducible assumption) | assumption)
                     obtain ⟨ad558,e558,hx558_0⟩:=Kd.at_bool (Kd.R_reads' HO_12.out).2.2 (rd t543 x13_2) p558 q558
                     (try rw [← Nbq96.out] at hx558_0)
                     cases e558
                     replace p558:=eq_true p558
                     replace q558:=eq_true q558
                     have p559 : 0 ≤ (x13_2 : Int):=of_decide_eq_true (by first | (with_reducible assumption) | assumption)
                     have q559 : x13_2 < (t525.length : Int):=of_decide_eq_true (by first | (with_reducible assumption) | assumption)
                     obtain ⟨ad559,e559,hx559_0,hx559_1,hx559_2⟩:=at_T46 (Kd.R_reads' HO_533000.out).2.2 x13_2 p559 q559
                     cases e559
                     replace p559:=eq_true p559
                     replace q559:=eq_true q559
                     have p560 : 0 ≤ (x13_2 : Int):=of_decide_eq_true (by first | (with_reducible assumption) | assumption)
                     have q560 : x13_2 < (t543.length : Int):=of_decide_eq_true (by first | (with_reducible assumption) | assumption)
                     obtain ⟨ad560,e560,hx560_0⟩:=Kd.at_int (Kd.R_reads' HO_9.out).2.2 x13_2 p560 q560
                     obtain rfl : ad555 = ad560:=(by injection e560)
                     replace p560:=eq_true p560
                     replace q560:=eq_true q560
                     have p561 : 0 ≤ ((rd t543 x13_2) : Int):=of_decide_eq_true (by first | (with_reducible assumption) | assumption)
                     have q561 : (rd t543 x13_2) < (l0_0.length : Int):=of_decide_eq_true (by first | (with_reducible assumption) | assumption)
                     obtain ⟨ad561,e561,hx561_0,hx561_1,hx561_2⟩:=at_T46 HR0_0.out (rd t543 x13_2) p561 q561
                     have hw561_2:=hx561_2
                     have hw561_1:=hx561_1
                     have hw561_0:=hx561_0
                     cases e561
                     replace hx561_0:=(HB.out.cell (World.block_lt_of_cell? w _ hx561_0)).trans hx561_0
                     replace hx561_1:=(HB.out.cell (World.block_lt_of_cell? w _ hx561_1)).trans hx561_1
                     replace hx561_2:=(HB.out.cell (World.block_lt_of_cell? w _ hx561_2)).trans hx561_2
                     replace p561:=eq_true p561
                     replace q561:=eq_true q561
                     as_aux_lemma =>
                      refine start_ (n:=40) (S:=fun w' => w'.cell? ⟨gb522,0,none⟩ = some (.slice (some ad561) l0_0.length c0_0) ∧ w'.cell? ⟨gb522,1,none⟩ = some (.slice A0_1 l0_1.length c0_1) ∧ w'.cell? ⟨gb532,0,none⟩ = some (.slice (some ad559) t525.length co21) ∧ w'.cell? ⟨gb532,1,none⟩ = some (.slice Ao24 t528.length co24) ∧ w'.cell? (ad555.add (x13_2).toNat) = some (.int .i64 (rd t543 x13_2)) ∧ w'.cell? (ad555.add (x13_2).toNat) = some (.int .i64 (rd t543 x13_2)) ∧ w'.cell? (ad555.add (x13_2).toNat) = some (.int .i64 (rd t543 x13_2)) ∧ w'.cell? (ad558.add ((rd t543 x13_2)).toNat) = some (.bool false) ∧ w'.cell? (ad559.add ((x13_2).toNat * 3)) = some (.int .i64 ((rd_T46 t525 x13_2).f0)) ∧ w'.cell? ⟨(ad559.add ((x13_2).toNat * 3)).block,(ad559.add ((x13_2).toNat * 3)).off+1,none⟩ = some (.int .i64 ((rd_T46 t525 x13_2).f1)) ∧ w'.cell? ⟨(ad559.add ((x13_2).toNat * 3)).block,(ad559.add ((x13_2).toNat * 3)).off+2,none⟩ = some (.int .i64 ((rd_T46 t525 x13_2).f2)) ∧ w'.cell? (ad555.add (x13_2).toNat) = some (.int .i64 (rd t543 x13_2)) ∧ w'.cell? (ad561.add (((rd t543 x13_2)).toNat * 3)) = some (.int .i64 ((rd_T46 l0_0 (rd t543 x13_2)).f0)) ∧ w'.cell? ⟨(ad561.add (((rd t543 x13_2)).toNat * 3)).block,(ad561.add (((rd t543 x13_2)).toNat * 3)).off+1,none⟩ = some (.int .i64 ((rd_T46 l0_0 (rd t543 x13_2)).f1)) ∧ w'.cell? ⟨(ad561.add (((rd t543 x13_2)).toNat * 3)).block,(ad561.add (((rd t543 x13_2)).toNat * 3)).off+2,none⟩ = some (.int .i64 ((rd_T46 l0_0 (rd t543 x13_2)).f2))) (ds:=[]) (flx16 0 40) (by kernel_rfl) rfl rfl ⟨(blk_cell BK522.out 0).trans rfl,(blk_cell BK522.out 1).trans rfl,(blk_cell BK532.out 0).trans rfl,(blk_cell BK532.out 1).trans rfl,hx555_0,hx556_0,hx557_0,hx558_0,hx559_0,hx559_1,hx559_2,hx560_0,((HB.out.cell (World.block_lt_of_cell? w _ hw561_0)).trans hw561_0),((HB.out.cell (World.block_lt_of_cell? w _ hw561_1)).trans hw561_1),((HB.out.cell (World.block_lt_of_cell? w _ hw561_2)).trans hw561_2)⟩ (fun hHeld => ?_);refine with_tabW lapidarylaw11_WalkOnce.tab15 lapidarylaw11_WalkOnce.bits15 (fun HT_ HW_ => ?_)
                      generalize wr.drew = w109 at HO_9 HO_10 HO_12 HO_533000 HO_533001 BK522 BK532 HB hx555_0 hx556_0 hx557_0 hx558_0 hx559_0 hx559_1 hx559_2 hx560_0 hx561_0 hx561_1 hx561_2 hHeld ⊢
                      refine pure_ (i:=0) (N:=some 112) (v:=?_) (a':=?_) (flx16 1 39) rfl rfl (any_of HT_.out (by kernel_rfl)) (fun _ _ _ h => h) (Or.inl ⟨by rfl,?_⟩) ?_ ?_
                      rotate_left
                      ·intro w'
                       go_simp
                       with_reducible rfl
                      rotate_left
                      ·simp only [Act.put,sAx16,sBx16,sCx16,i64_w,i32_w]
                       rfl
                      refine pure_ (i:=1) (N:=some 113) (v:=?_) (a':=?_) (flx16 2 38) rfl rfl (any_of HT_.out (by kernel_rfl)) (fun _ _ _ h => h) (Or.inl ⟨by rfl,?_⟩) ?_ ?_
                      rotate_left
                      ·intro w'
                       go_simp
                       with_reducible rfl
                      rotate_left
                      ·simp only [Act.put,sAx16,sBx16,sCx16,i64_w,i32_w]
                       rfl
                      refine pure_ (i:=2) (N:=some 114) (v:=?_) (a':=?_) (flx16 3 37) rfl rfl (any_of HT_.out (by kernel_rfl)) (fun _ _ _ h => h) (Or.inl ⟨by rfl,?_⟩) ?_ ?_
                      rotate_left
                      ·intro w'
                       go_simp
                       with_reducible rfl
                      rotate_left
                      ·simp only [Act.put,sAx16,sBx16,sCx16,i64_w,i32_w]
                       rfl
                      refine take_ (i:=3) (N:=some 115) (v:=?_) (a':=?_) (flx16 4 36) rfl rfl (take_ofW HT_.out HW_.out (by kernel_rfl)) (fun _ _ _ h => h) (Or.inl ⟨by rfl,?_⟩) hHeld ?_ ?_
                      rotate_left
                      ·rintro w' ⟨s0,s1,s2,s3,s4,s5,s6,s7,s8,s9,s10,s11,s12,s13,s14⟩
                       go_simp
                       with_reducible rfl
                      rotate_left
                      ·simp only [Act.put,sAx16,sBx16,sCx16,i64_w,i32_w]
                       rfl
                      refine pure_ (i:=4) (N:=some 116) (v:=?_) (a':=?_) (flx16 5 35) rfl rfl (any_of HT_.out (by kernel_rfl)) (fun _ _ _ h => h) (Or.inl ⟨by rfl,?_⟩) ?_ ?_
                      rotate_left
                      ·intro w'
                       go_simp
                       with_reducible rfl
                      rotate_left
                      ·simp only [Act.put,sAx16,sBx16,sCx16,i64_w,i32_w]
                       rfl
                      refine pure_ (i:=5) (N:=some 117) (v:=?_) (a':=?_) (flx16 6 34) rfl rfl (any_of HT_.out (by kernel_rfl)) (fun _ _ _ h => h) (Or.inl ⟨by rfl,?_⟩) ?_ ?_
                      rotate_left
                      ·intro w'
                       go_simp
                       with_reducible rfl
                      rotate_left
                      ·simp only [Act.put,sAx16,sBx16,sCx16,i64_w,i32_w]
                       rfl
                      refine pure_ (i:=6) (N:=some 118) (v:=?_) (a':=?_) (flx16 7 33) rfl rfl (any_of HT_.out (by kernel_rfl)) (fun _ _ _ h => h) (Or.inl ⟨by rfl,?_⟩) ?_ ?_
                      rotate_left
                      ·intro w'
                       go_simp
                       with_reducible rfl
                      rotate_left
                      ·simp only [Act.put,sAx16,sBx16,sCx16,i64_w,i32_w]
                       rfl
                      refine pure_ (i:=7) (N:=some 119) (v:=?_) (a':=?_) (flx16 8 32) rfl rfl (any_of HT_.out (by kernel_rfl)) (fun _ _ _ h => h) (Or.inl ⟨by rfl,?_⟩) ?_ ?_
                      rotate_left
                      ·intro w'
                       go_simp
                       with_reducible rfl
                      rotate_left
                      ·simp only [Act.put,sAx16,sBx16,sCx16,i64_w,i32_w]
                       rfl
                      refine pure_ (i:=8) (N:=some 120) (v:=?_) (a':=?_) (flx16 9 31) rfl rfl (any_of HT_.out (by kernel_rfl)) (fun _ _ _ h => h) (Or.inl ⟨by rfl,?_⟩) ?_ ?_
                      rotate_left
                      ·intro w'
                       go_simp
                       with_reducible rfl
                      rotate_left
                      ·simp only [Act.put,sAx16,sBx16,sCx16,i64_w,i32_w]
                       rfl
                      refine pure_ (i:=10) (N:=some 122) (v:=?_) (a':=?_) #[true,true,true,true,true,true,true,true,true,false,true,false,false,false,false,false,false,false,false,false,false,false,false,false,false,false,false,false,false,false,false,false,false,false,false,false,false,false,false,false] rfl rfl (any_of HT_.out (by kernel_rfl)) (fun _ _ _ h => h) (Or.inl ⟨by rfl,?_⟩) ?_ ?_
                      rotate_left
                      ·intro w'
                       go_simp
                       with_reducible rfl
                      rotate_left
                      ·simp only [Act.put,sAx16,sBx16,sCx16,i64_w,i32_w]
                       rfl
                      refine take_ (i:=9) (N:=some 121) (v:=?_) (a':=?_) (flx16 11 29) rfl rfl (take_ofW HT_.out HW_.out (by kernel_rfl)) (fun _ _ _ h => h) (Or.inl ⟨by rfl,?_⟩) hHeld ?_ ?_
                      rotate_left
                      ·rintro w' ⟨s0,s1,s2,s3,s4,s5,s6,s7,s8,s9,s10,s11,s12,s13,s14⟩
                       go_simp
                       with_reducible rfl
                      rotate_left
                      ·simp only [Act.put,sAx16,sBx16,sCx16,i64_w,i32_w]
                       rfl
                      refine take_ (i:=11) (N:=some 123) (v:=?_) (a':=?_) (flx16 12 28) rfl rfl (take_ofW HT_.out HW_.out (by kernel_rfl)) (fun _ _ _ h => h) (Or.inl ⟨by rfl,?_⟩) hHeld ?_ ?_
                      rotate_left
                      ·rintro w' ⟨s0,s1,s2,s3,s4,s5,s6,s7,s8,s9,s10,s11,s12,s13,s14⟩
                       go_simp
                       with_reducible rfl
                      rotate_left
                      ·simp only [Act.put,sAx16,sBx16,sCx16,i64_w,i32_w]
                       rfl
                      refine pure_ (i:=12) (N:=some 124) (v:=?_) (a':=?_) (flx16 13 27) rfl rfl (any_of HT_.out (by kernel_rfl)) (fun _ _ _ h => h) (Or.inl ⟨by rfl,?_⟩) ?_ ?_
                      rotate_left
                      ·intro w'
                       go_simp
                       with_reducible rfl
                      rotate_left
                      ·simp only [Act.put,sAx16,sBx16,sCx16,i64_w,i32_w]
                       rfl
                      refine pure_ (i:=13) (N:=some 125) (v:=?_) (a':=?_) (flx16 14 26) rfl rfl (any_of HT_.out (by kernel_rfl)) (fun _ _ _ h => h) (Or.inl ⟨by rfl,?_⟩) ?_ ?_
                      rotate_left
                      ·intro w'
                       go_simp
                       with_reducible rfl
                      rotate_left
                      ·simp only [Act.put,sAx16,sBx16,sCx16,i64_w,i32_w]
                       rfl
                      refine pure_ (i:=14) (N:=some 126) (v:=?_) (a':=?_) (flx16 15 25) rfl rfl (any_of HT_.out (by kernel_rfl)) (fun _ _ _ h => h) (Or.inl ⟨by rfl,?_⟩) ?_ ?_
                      rotate_left
                      ·intro w'
                       go_simp
                       with_reducible rfl
                      rotate_left
                      ·simp only [Act.put,sAx16,sBx16,sCx16,i64_w,i32_w]
                       rfl
                      refine pure_ (i:=15) (N:=some 127) (v:=?_) (a':=?_) (flx16 16 24) rfl rfl (any_of HT_.out (by kernel_rfl)) (fun _ _ _ h => h) (Or.inl ⟨by rfl,?_⟩) ?_ ?_
                      rotate_left
                      ·intro w'
                       go_simp
                       with_reducible rfl
                      rotate_left
                      ·simp only [Act.put,sAx16,sBx16,sCx16,i64_w,i32_w]
                       rfl
                      refine pure_ (i:=16) (N:=some 128) (v:=?_) (a':=?_) (flx16 17 23) rfl rfl (any_of HT_.out (by kernel_rfl)) (fun _ _ _ h => h) (Or.inl ⟨by rfl,?_⟩) ?_ ?_
                      rotate_left
                      ·intro w'
                       go_simp
                       with_reducible rfl
                      rotate_left
                      ·simp only [Act.put,sAx16,sBx16,sCx16,i64_w,i32_w]
                       rfl
                      refine pure_ (i:=17) (N:=some 129) (v:=?_) (a':=?_) (flx16 18 22) rfl rfl (any_of HT_.out (by kernel_rfl)) (fun _ _ _ h => h) (Or.inl ⟨by rfl,?_⟩) ?_ ?_
                      rotate_left
                      ·intro w'
                       go_simp
                       with_reducible rfl
                      rotate_left
                      ·simp only [Act.put,sAx16,sBx16,sCx16,i64_w,i32_w]
                       rfl
                      refine pure_ (i:=18) (N:=some 130) (v:=?_) (a':=?_) (flx16 19 21) rfl rfl (any_of HT_.out (by kernel_rfl)) (fun _ _ _ h => h) (Or.inl ⟨by rfl,?_⟩) ?_ ?_
                      rotate_left
                      ·intro w'
                       go_simp
                       with_reducible rfl
                      rotate_left
                      ·simp only [Act.put,sAx16,sBx16,sCx16,i64_w,i32_w]
                       rfl
                      refine pure_ (i:=19) (N:=some 131) (v:=?_) (a':=?_) (flx16 20 20) rfl rfl (any_of HT_.out (by kernel_rfl)) (fun _ _ _ h => h) (Or.inl ⟨by rfl,?_⟩) ?_ ?_
                      rotate_left
                      ·intro w'
                       go_simp
                       with_reducible rfl
                      rotate_left
                      ·simp only [Act.put,sAx16,sBx16,sCx16,i64_w,i32_w]
                       rfl
                      refine take_ (i:=20) (N:=some 132) (v:=?_) (a':=?_) (flx16 21 19) rfl rfl (take_ofW HT_.out HW_.out (by kernel_rfl)) (fun _ _ _ h => h) (Or.inl ⟨by rfl,?_⟩) hHeld ?_ ?_
                      rotate_left
                      ·rintro w' ⟨s0,s1,s2,s3,s4,s5,s6,s7,s8,s9,s10,s11,s12,s13,s14⟩
                       go_simp
                       with_reducible rfl
                      rotate_left
                      ·simp only [Act.put,sAx16,sBx16,sCx16,i64_w,i32_w]
                       rfl
                      refine pure_ (i:=21) (N:=some 133) (v:=?_) (a':=?_) (flx16 22 18) rfl rfl (any_of HT_.out (by kernel_rfl)) (fun _ _ _ h => h) (Or.inl ⟨by rfl,?_⟩) ?_ ?_
                      rotate_left
                      ·intro w'
                       go_simp
                       with_reducible rfl
                      rotate_left
                      ·simp only [Act.put,sAx16,sBx16,sCx16,i64_w,i32_w]
                       rfl
                      refine take_ (i:=22) (N:=some 134) (v:=?_) (a':=?_) (flx16 23 17) rfl rfl (take_ofW HT_.out HW_.out (by kernel_rfl)) (fun _ _ _ h => h) (Or.inl ⟨by rfl,?_⟩) hHeld ?_ ?_
                      rotate_left
                      ·rintro w' ⟨s0,s1,s2,s3,s4,s5,s6,s7,s8,s9,s10,s11,s12,s13,s14⟩
                       go_simp
                       with_reducible rfl
                      rotate_left
                      ·simp only [Act.put,sAx16,sBx16,sCx16,i64_w,i32_w]
                       rfl
                      refine pure_ (i:=23) (N:=some 135) (v:=?_) (a':=?_) (flx16 24 16) rfl rfl (any_of HT_.out (by kernel_rfl)) (fun _ _ _ h => h) (Or.inl ⟨by rfl,?_⟩) ?_ ?_
                      rotate_left
                      ·intro w'
                       go_simp
                       with_reducible rfl
                      rotate_left
                      ·simp only [Act.put,sAx16,sBx16,sCx16,i64_w,i32_w]
                       rfl
                      refine pure_ (i:=24) (N:=some 136) (v:=?_) (a':=?_) (flx16 25 15) rfl rfl (any_of HT_.out (by kernel_rfl)) (fun _ _ _ h => h) (Or.inl ⟨by rfl,?_⟩) ?_ ?_
                      rotate_left
                      ·intro w'
                       go_simp
                       with_reducible rfl
                      rotate_left
                      ·simp only [Act.put,sAx16,sBx16,sCx16,i64_w,i32_w]
                       rfl
                      refine pure_ (i:=25) (N:=some 137) (v:=?_) (a':=?_) (flx16 26 14) rfl rfl (any_of HT_.out (by kernel_rfl)) (fun _ _ _ h => h) (Or.inl ⟨by rfl,?_⟩) ?_ ?_
                      rotate_left
                      ·intro w'
                       go_simp
                       with_reducible rfl
                      rotate_left
                      ·simp only [Act.put,sAx16,sBx16,sCx16,i64_w,i32_w]
                       rfl
                      refine pure_ (i:=27) (N:=some 139) (v:=?_) (a':=?_) #[true,true,true,true,true,true,true,true,true,true,true,true,true,true,true,true,true,true,true,true,true,true,true,true,true,true,false,true,false,false,false,false,false,false,false,false,false,false,false,false] rfl rfl (any_of HT_.out (by kernel_rfl)) (fun _ _ _ h => h) (Or.inl ⟨by rfl,?_⟩) ?_ ?_
                      rotate_left
                      ·intro w'
                       go_simp
                       with_reducible rfl
                      rotate_left
                      ·simp only [Act.put,sAx16,sBx16,sCx16,i64_w,i32_w]
                       rfl
                      refine pure_ (i:=30) (N:=some 142) (v:=?_) (a':=?_) #[true,true,true,true,true,true,true,true,true,true,true,true,true,true,true,true,true,true,true,true,true,true,true,true,true,true,false,true,false,false,true,false,false,false,false,false,false,false,false,false] rfl rfl (any_of HT_.out (by kernel_rfl)) (fun _ _ _ h => h) (Or.inl ⟨by rfl,?_⟩) ?_ ?_
                      rotate_left
                      ·intro w'
                       go_simp
                       with_reducible rfl
                      rotate_left
                      ·simp only [Act.put,sAx16,sBx16,sCx16,i64_w,i32_w]
                       rfl
                      refine pure_ (i:=32) (N:=some 144) (v:=?_) (a':=?_) #[true,true,true,true,true,true,true,true,true,true,true,true,true,true,true,true,true,true,true,true,true,true,true,true,true,true,false,true,false,false,true,false,true,false,false,false,false,false,false,false] rfl rfl (any_of HT_.out (by kernel_rfl)) (fun _ _ _ h => h) (Or.inl ⟨by rfl,?_⟩) ?_ ?_
                      rotate_left
                      ·intro w'
                       go_simp
                       with_reducible rfl
                      rotate_left
                      ·simp only [Act.put,sAx16,sBx16,sCx16,i64_w,i32_w]
                       rfl
                      refine pure_ (i:=33) (N:=some 145) (v:=?_) (a':=?_) #[true,true,true,true,true,true,true,true,true,true,true,true,true,true,true,true,true,true,true,true,true,true,true,true,true,true,false,true,false,false,true,false,true,true,false,false,false,false,false,false] rfl rfl (any_of HT_.out (by kernel_rfl)) (fun _ _ _ h => h) (Or.inl ⟨by rfl,?_⟩) ?_ ?_
                      rotate_left
                      ·intro w'
                       go_simp
                       with_reducible rfl
                      rotate_left
                      ·simp only [Act.put,sAx16,sBx16,sCx16,i64_w,i32_w]
                       rfl
                      refine pure_ (i:=34) (N:=some 146) (v:=?_) (a':=?_) #[true,true,true,true,true,true,true,true,true,true,true,true,true,true,true,true,true,true,true,true,true,true,true,true,true,true,false,true,false,false,true,false,true,true,true,false,false,false,false,false] rfl rfl (any_of HT_.out (by kernel_rfl)) (fun _ _ _ h => h) (Or.inl ⟨by rfl,?_⟩) ?_ ?_
                      rotate_left
                      ·intro w'
                       go_simp
                       with_reducible rfl
                      rotate_left
                      ·simp only [Act.put,sAx16,sBx16,sCx16,i64_w,i32_w]
                       rfl
                      refine take_ (i:=26) (N:=some 138) (v:=?_) (a':=?_) #[true,true,true,true,true,true,true,true,true,true,true,true,true,true,true,true,true,true,true,true,true,true,true,true,true,true,true,true,false,false,true,false,true,true,true,false,false,false,false,false] rfl rfl (take_ofW HT_.out HW_.out (by kernel_rfl)) (fun _ _ _ h => h) (Or.inl ⟨by rfl,?_⟩) hHeld ?_ ?_
                      rotate_left
                      ·rintro w' ⟨s0,s1,s2,s3,s4,s5,s6,s7,s8,s9,s10,s11,s12,s13,s14⟩
                       go_simp
                       with_reducible rfl
                      rotate_left
                      ·simp only [Act.put,sAx16,sBx16,sCx16,i64_w,i32_w]
                       rfl
                      refine pure_ (i:=28) (N:=some 140) (v:=?_) (a':=?_) #[true,true,true,true,true,true,true,true,true,true,true,true,true,true,true,true,true,true,true,true,true,true,true,true,true,true,true,true,true,false,true,false,true,true,true,false,false,false,false,false] rfl rfl (any_of HT_.out (by kernel_rfl)) (fun _ _ _ h => h) (Or.inl ⟨by rfl,?_⟩) ?_ ?_
                      rotate_left
                      ·intro w'
                       go_simp
                       with_reducible rfl
                      rotate_left
                      ·simp only [Act.put,sAx16,sBx16,sCx16,i64_w,i32_w]
                       rfl
                      refine take_ (i:=29) (N:=some 141) (v:=?_) (a':=?_) #[true,true,true,true,true,true,true,true,true,true,true,true,true,true,true,true,true,true,true,true,true,true,true,true,true,true,true,true,true,true,true,false,true,true,true,false,false,false,false,false] rfl rfl (take_ofW HT_.out HW_.out (by kernel_rfl)) (fun _ _ _ h => h) (Or.inl ⟨by rfl,?_⟩) hHeld ?_ ?_
                      rotate_left
                      ·rintro w' ⟨s0,s1,s2,s3,s4,s5,s6,s7,s8,s9,s10,s11,s12,s13,s14⟩
                       go_simp
                       with_reducible rfl
                      rotate_left
                      ·simp only [Act.put,sAx16,sBx16,sCx16,i64_w,i32_w]
                       rfl
                      refine take_ (i:=31) (N:=some 143) (v:=?_) (a':=?_) (flx16 35 5) rfl rfl (take_ofW HT_.out HW_.out (by kernel_rfl)) (fun _ _ _ h => h) (Or.inl ⟨by rfl,?_⟩) hHeld ?_ ?_
                      rotate_left
                      ·rintro w' ⟨s0,s1,s2,s3,s4,s5,s6,s7,s8,s9,s10,s11,s12,s13,s14⟩
                       go_simp
                       with_reducible rfl
                      rotate_left
                      ·simp only [Act.put,sAx16,sBx16,sCx16,i64_w,i32_w]
                       rfl
                      refine take_ (i:=35) (N:=some 147) (v:=?_) (a':=?_) (flx16 36 4) rfl rfl (take_ofW HT_.out HW_.out (by kernel_rfl)) (fun _ _ _ h => h) (Or.inl ⟨by rfl,?_⟩) hHeld ?_ ?_
                      rotate_left
                      ·rintro w' ⟨s0,s1,s2,s3,s4,s5,s6,s7,s8,s9,s10,s11,s12,s13,s14⟩
                       go_simp
                       with_reducible rfl
                      rotate_left
                      ·simp only [Act.put,sAx16,sBx16,sCx16,i64_w,i32_w]
                       rfl
                      refine pure_ (i:=36) (N:=some 148) (v:=?_) (a':=?_) (flx16 37 3) rfl rfl (any_of HT_.out (by kernel_rfl)) (fun _ _ _ h => h) (Or.inl ⟨by rfl,?_⟩) ?_ ?_
                      rotate_left
                      ·intro w'
                       go_simp
                       with_reducible rfl
                      rotate_left
                      ·simp only [Act.put,sAx16,sBx16,sCx16,i64_w,i32_w]
                       rfl
                      refine take_ (i:=37) (N:=some 149) (v:=?_) (a':=?_) (flx16 38 2) rfl rfl (take_ofW HT_.out HW_.out (by kernel_rfl)) (fun _ _ _ h => h) (Or.inl ⟨by rfl,?_⟩) hHeld ?_ ?_
                      rotate_left
                      ·rintro w' ⟨s0,s1,s2,s3,s4,s5,s6,s7,s8,s9,s10,s11,s12,s13,s14⟩
                       go_simp
                       with_reducible rfl
                      rotate_left
                      ·simp only [Act.put,sAx16,sBx16,sCx16,i64_w,i32_w]
                       rfl
                      refine pure_ (i:=38) (N:=some 150) (v:=?_) (a':=?_) (flx16 39 1) rfl rfl (any_of HT_.out (by kernel_rfl)) (fun _ _ _ h => h) (Or.inl ⟨by rfl,?_⟩) ?_ ?_
                      rotate_left
                      ·intro w'
                       go_simp
                       with_reducible rfl
                      rotate_left
                      ·simp only [Act.put,sAx16,sBx16,sCx16,i64_w,i32_w]
                       rfl
                      refine pure_ (i:=39) (N:=some 151) (v:=?_) (a':=?_) (flx16 40 0) rfl rfl (any_of HT_.out (by kernel_rfl)) (fun _ _ _ h => h) (Or.inl ⟨by rfl,?_⟩) ?_ ?_
                      rotate_left
                      ·intro w'
                       go_simp
                       with_reducible rfl
                      rotate_left
                      ·simp only [Act.put,sAx16,sBx16,sCx16,i64_w,i32_w]
                       rfl
                      refine done_ (done_of HT_.out (by kernel_rfl)) ?_
                      have p562 : 0 ≤ (x13_2 : Int):=of_decide_eq_true (by first | (with_reducible assumption) | assumption)
                      have q562 : x13_2 < (t543.length : Int):=of_decide_eq_true (by first | (with_reducible assumption) | assumption)
                      obtain ⟨ad562,e562,hx562_0⟩:=Kd.at_int (Kd.R_reads' HO_9.out).2.2 x13_2 p562 q562
                      obtain rfl : ad555 = ad562:=(by injection e562)
                      replace p562:=eq_true p562
                      replace q562:=eq_true q562
                      have p107 : 0 ≤ ((rd t543 x13_2) : Int):=of_decide_eq_true (by first | (with_reducible assumption) | assumption)
                      have q107 : ((rd t543 x13_2) : Int) < ((x12_2.length : Int) : Int):=of_decide_eq_true (by first | (with_reducible assumption) | assumption)
                      obtain ⟨go107,co107,eo107,gb107,gl107,cl107,HG107⟩:=Kd.R_form HO_12.out (by omega)
                      (first | cases eo107 | (injection eo107 with ea_ en_ ec_;(first | subst ea_ | (injection ea_ with ea_;subst ea_));subst ec_;clear en_))
                      have GB107:=aMx16 gb107
                      have GG107:=aMx16 HG107
                      clear gb107 gl107 HG107
                      (first | simp only [add_plain] at hx558_0 | skip)
                      obtain ⟨hx107_0,hf107_0⟩:=Kd.R_celln false HO_12.out ((rd t543 x13_2) : Int) p107 q107
                      replace p107:=eq_true p107
                      replace q107:=eq_true q107
                      obtain ⟨hy111_,hz111_⟩:=Kd.R_celln false HO_12.out ((rd t543 x13_2) : Int) (of_decide_eq_true (by first | (with_reducible assumption) | assumption)) (of_decide_eq_true (by first | (with_reducible assumption) | assumption))
                      have HP111:=Kd.R_putg HO_12.out ((rd t543 x13_2) : Int) true
                      try go_wp2_with (first|((with_reducible refine gate_store (t:=4) (p:=157) rfl ?_);refine store_event (t:=4) (p:=157) (v:=?vo_w112) (w1:=(w109.setCell ⟨go107,((rd t543 x13_2) : Int).toNat,none⟩ (.bool true))) ?hg ?ho ?hn ?hr ?_;(case ho => rfl);(case hg => rfl);(case hn => rfl);(case hr => first|(go_simp;done)|(go_simp;rfl));intro w112 hw;have hg : w109.grownBy w112 (some go107):=(by rw [hw];exact HP111.2);have hp_ : Kd.R Kd.bool 4 w112 w.heap.size (fun _ => True) (.slice (some ⟨go107,0,none⟩) x12_2.length co110) y563:=(by rw [hw,Ny563.out];exact HP111.1);clear HP111;have n0_:=aMx16 (Kd.R_over' (v:=(.slice (some ⟨go107,0,none⟩) x12_2.length co110)) (by (with_reducible repeat (first|apply Kd.R_alloc|apply Kd.R_drewN|apply Kd.R_drew));exact HO_9.out) (Kd.R_typed HO_12.out) (by decide) hg);have n1_:=aMx16 (Kd.R_over' (v:=(.slice (some ⟨go107,0,none⟩) x12_2.length co110)) (by (with_reducible repeat (first|apply Kd.R_alloc|apply Kd.R_drewN|apply Kd.R_drew));exact HO_10.out) (Kd.R_typed HO_12.out) (by decide) hg);have n2_:=aMx16 (hp_);have n3_:=aMx16 (Kd.R_over' (v:=(.slice (some ⟨go107,0,none⟩) x12_2.length co110)) (by (with_reducible repeat (first|apply Kd.R_alloc|apply Kd.R_drewN|apply Kd.R_drew));exact HO_533000.out) (Kd.R_typed HO_12.out) (by decide) hg);have n4_:=aMx16 (Kd.R_over' (v:=(.slice (some ⟨go107,0,none⟩) x12_2.length co110)) (by (with_reducible repeat (first|apply Kd.R_alloc|apply Kd.R_drewN|apply Kd.R_drew));exact HO_533001.out) (Kd.R_typed HO_12.out) (by decide) hg);have n5_:=aMx16 (blk_grown (g:=gb522) (o:=.cells #[.slice (some ad561) l0_0.length c0_0,.slice A0_1 l0_1.length c0_1] 25 (0,0)) (by (with_reducible repeat (first|refine blk_drewN ?_ _|refine blk_drew ?_|refine blk_alloc ?_ _));exact BK522.out) hg (Kd.R_ne HO_12.out BK522.out (by decide)));have n6_:=aMx16 (blk_grown (g:=gb532) (o:=.cells #[.slice (some ad559) t525.length co21,.slice Ao24 t528.length co24] 25 (0,0)) (by (with_reducible repeat (first|refine blk_drewN ?_ _|refine blk_drew ?_|refine blk_alloc ?_ _));exact BK532.out) hg (Kd.R_ne HO_12.out BK532.out (by decide)));have n7_:=aMx16 ((by rw [hw];exact below_set (HB.out) GB107.out : Below w.heap.size w w112));clear HO_9;clear HO_10;clear HO_12;clear HO_533000;clear HO_533001;clear BK522;clear BK532;clear HB;have HO_9:=n0_;have HO_10:=n1_;have HO_12:=n2_;have HO_533000:=n3_;have HO_533001:=n4_;have BK522:=n5_;have BK532:=n6_;have HB:=n7_;clear n0_ n1_ n2_ n3_ n4_ n5_ n6_ n7_;clear hg hw hp_))
                      go_roundg k2
                      case measure => have:=HJ13.out;have:=HK2.out;omega
                      case rel => exact ⟨(y563),(wrap64 (x13_2+1)),(by first | rfl | (simp;done) | (simp [*];done) | (simp [wrap64];done)),H',⟨by have:=HJ13.out;have:=HK2.out;omega⟩,⟨by (with_reducible repeat (first | apply Kd.R_alloc | apply Kd.R_drewN | apply Kd.R_drew));exact HO_9.out⟩,⟨by (with_reducible repeat (first | apply Kd.R_alloc | apply Kd.R_drewN | apply Kd.R_drew));exact HO_10.out⟩,⟨by (with_reducible repeat (first | apply Kd.R_alloc | apply Kd.R_drewN | apply Kd.R_drew));exact HO_12.out⟩,⟨by (with_reducible repeat (first | apply Kd.R_alloc | apply Kd.R_drewN | apply Kd.R_drew));exact HO_533000.out⟩,⟨by (with_reducible repeat (first | apply Kd.R_alloc | apply Kd.R_drewN | apply Kd.R_drew));exact HO_533001.out⟩,⟨by (with_reducible repeat (first | refine blk_drewN ?_ _ | refine blk_drew ?_ | refine blk_alloc ?_ _));exact BK522.out⟩,⟨by (with_reducible repeat (first | refine blk_drewN ?_ _ | refine blk_drew ?_ | refine blk_alloc ?_ _));exact BK532.out⟩,⟨by repeat (first | (with_reducible first | exact HB.out | apply below_alloc | apply pw_below_drewN | apply below_drew1 | refine below_set ?_ GE522.out | refine below_set ?_ GE532.out) | exact HB.out)⟩⟩
                   ·rw [if_neg c102] at H
                    exact absurd H (by simp)
                  ·rw [if_neg c101] at H
                   exact absurd H (by simp)
                ·rw [if_neg c95] at H
                 exact absurd H (by simp)
               ·rw [if_neg c94] at H
                exact absurd H (by simp)
            ·rw [if_neg c87] at H
             exact absurd H (by simp)
           ·rw [if_neg c86] at H
            have c86b0 : decide (x13_2 < (t543.length : Int)) = false:=decide_eq_false c86
            clear c86
            by_cases c113 : 0 ≤ (l0_1.length : Int)
            ·rw [if_pos c113] at H
             have c113b0:=eq_true c113
             have c113b1 : decide (0 ≤ (l0_1.length : Int)) = true:=decide_eq_true c113
             clear c113
             by_cases c114 : ((l0_1.length : Int) : Int).toNat ≤ 281474976710656
             ·rw [if_pos c114] at H
              have c114b0:=eq_true c114
              have c114b1 : decide (((l0_1.length : Int) : Int).toNat ≤ 281474976710656) = true:=decide_eq_true c114
              clear c114
              obtain ⟨y564,hy564⟩ : ∃ y_ : List Bool,y_ = (List.replicate ((l0_1.length : Int) : Int).toNat false):=⟨_,rfl⟩
              replace H : (lapidarylaw11_WalkOnce.l1 k2 t543 t546 y564 0 l0_0 l0_1 t525 t528) = some r:=by first | (rw [hy564];with_reducible exact H) | (have H2_:=(Option.bind_some _ _).symm.trans H;rw [hy564];with_reducible exact H2_) | (have H2_:=(Option.bind_some _ _).symm.trans H;with_reducible exact H2_) | with_reducible exact H | (rw [hy564];exact H) | exact H
              have Ny564:=aMx16 hy564
              clear hy564
              have H':=aMx16 H
              clear H
              obtain ⟨Ao115,co115,eo115⟩:=Kd.R_slice HO_9.out
              subst eo115
              have hnb116:=NB522_532.out
              have hnc116:=NB532_522.out
              have hcz117_0 : wr.cell? ⟨gb522,0,none⟩ = some (.slice A0_0 l0_0.length c0_0):=(blk_cell BK522.out 0).trans rfl
              have hcz117_1 : wr.cell? ⟨gb522,1,none⟩ = some (.slice A0_1 l0_1.length c0_1):=(blk_cell BK522.out 1).trans rfl
              have hfz117_0:=blk_frozen BK522.out 0
              have hfz117_1:=blk_frozen BK522.out 1
              go_wp2_with (first|((with_reducible refine gate_dst (N:=161) rfl ?_);(try (refine gate_guard (by rfl) ?_;dsimp only));refine Kd.R_make Kd.bool _ 4 rfl (N:=161) rfl 54 _ _ rfl (l0_1.length : Int) rfl rfl Tryd.underlying54 (.bool false) 1 info4 rfl (by decide) (by omega) false (ok:=fun _ => True) (okp:=fun _ => True) rfl (fun _ hk => hk) trivial (of_decide_eq_true (by first|(with_reducible assumption)|assumption)) (Nat.le_trans (Nat.mul_le_mul_right _ (of_decide_eq_true (by first|(with_reducible assumption)|assumption) : (l0_1.length : Int).toNat ≤ 281474976710656)) (by omega)) (Below.refl _ _) (Nat.le_refl _) ?_;intro v565 w118 ho119 hb hg_ hnew_;clear hg_ hnew_;(first|rw [← Ny564.out] at ho119|(simp only [Int.reduceToNat] at ho119;rw [← Ny564.out] at ho119));have n0_:=aMx16 (Kd.R_below (by (with_reducible repeat (first|apply Kd.R_alloc|apply Kd.R_drewN|apply Kd.R_drew));exact HO_9.out) hb);have n1_:=aMx16 (Kd.R_below (by (with_reducible repeat (first|apply Kd.R_alloc|apply Kd.R_drewN|apply Kd.R_drew));exact HO_10.out) hb);have n2_:=aMx16 (Kd.R_elder' (by (with_reducible repeat (first|apply Kd.R_alloc|apply Kd.R_drewN|apply Kd.R_drew));exact HO_12.out) (Kd.R_base ho119) hb);have n3_:=aMx16 (Kd.R_below (by (with_reducible repeat (first|apply Kd.R_alloc|apply Kd.R_drewN|apply Kd.R_drew));exact HO_533000.out) hb);have n4_:=aMx16 (Kd.R_below (by (with_reducible repeat (first|apply Kd.R_alloc|apply Kd.R_drewN|apply Kd.R_drew));exact HO_533001.out) hb);have n5_:=aMx16 (Kd.R_lower (Kd.R_new' ho119 (Kd.R_lt (by (with_reducible repeat (first|apply Kd.R_alloc|apply Kd.R_drewN|apply Kd.R_drew));exact HO_12.out))) (below_size (by repeat (first|(with_reducible first|exact HB.out|apply below_alloc|apply pw_below_drewN|apply below_drew1|refine below_set ?_ GE522.out|refine below_set ?_ GE532.out)|exact HB.out))));have n6_:=aMx16 (blk_below (g:=gb522) (o:=.cells #[.slice A0_0 l0_0.length c0_0,.slice A0_1 l0_1.length c0_1] 25 (0,0)) (by (with_reducible repeat (first|refine blk_drewN ?_ _|refine blk_drew ?_|refine blk_alloc ?_ _));exact BK522.out) hb);have n7_:=aMx16 (blk_below (g:=gb532) (o:=.cells #[.slice Ao21 t525.length co21,.slice Ao24 t528.length co24] 25 (0,0)) (by (with_reducible repeat (first|refine blk_drewN ?_ _|refine blk_drew ?_|refine blk_alloc ?_ _));exact BK532.out) hb);have n8_:=aMx16 (below_step (by repeat (first|(with_reducible first|exact HB.out|apply below_alloc|apply pw_below_drewN|apply below_drew1|refine below_set ?_ GE522.out|refine below_set ?_ GE532.out)|exact HB.out)) hb);clear HO_9;clear HO_10;clear HO_12;clear HO_533000;clear HO_533001;clear BK522;clear BK532;clear HB;have HO_9:=n0_;have HO_10:=n1_;have HO_12:=n2_;have HO_533000:=n3_;have HO_533001:=n4_;have HO566:=n5_;have BK522:=n6_;have BK532:=n7_;have HB:=n8_;clear n0_ n1_ n2_ n3_ n4_ n5_ n6_ n7_ n8_;clear hb ho119))
              go_loopg [15] k2 (fun kq v15 w' => ∃ (x14_3 : List Bool) (x15_3 : Int),v15 = .int .i64 x15_3 ∧ Aside0 (lapidarylaw11_WalkOnce.l1 kq t543 t546 x14_3 x15_3 l0_0 l0_1 t525 t528 = some r) ∧ Aside0 (kq ≤ k2) ∧ Aside0 (Kd.R (Kd.int .i64) 3 w' w.heap.size (fun k_ => some k_ ≠ (v547 : Value).ownBlock) (.slice Ao115 t543.length co115) t543) ∧ Aside0 (Kd.R (Kd.int .i64) 3 w' w.heap.size (fun k_ => some k_ ≠ ((.slice Ao115 t543.length co115) : Value).ownBlock) v547 t546) ∧ Aside0 (Kd.R Kd.bool 4 w' w.heap.size (fun _ => True) v565 x14_3) ∧ Aside0 (Kd.R k46 46 w' w.heap.size (fun _ => True) (.slice Ao21 t525.length co21) t525) ∧ Aside0 (Kd.R k47 47 w' w.heap.size (fun _ => True) (.slice Ao24 t528.length co24) t528) ∧ Aside0 (w'.heap[gb522]? = some (.cells #[(.slice A0_0 l0_0.length c0_0),(.slice A0_1 l0_1.length c0_1)] 25 (0,0))) ∧ Aside0 (w'.heap[gb532]? = some (.cells #[(.slice Ao21 t525.length co21),(.slice Ao24 t528.length co24)] 25 (0,0))) ∧ Aside0 (Below w.heap.size w w'))
              case atStart => exact ⟨(y564),(0),(by first | rfl | (simp;done) | (simp [*];done) | (simp [wrap64];done)),H',⟨Nat.le_refl _⟩,⟨by (with_reducible repeat (first | apply Kd.R_alloc | apply Kd.R_drewN | apply Kd.R_drew));exact HO_9.out⟩,⟨by (with_reducible repeat (first | apply Kd.R_alloc | apply Kd.R_drewN | apply Kd.R_drew));exact HO_10.out⟩,⟨by (with_reducible repeat (first | apply Kd.R_alloc | apply Kd.R_drewN | apply Kd.R_drew));exact Kd.R_mono HO566.out (fun _ hk => trivial)⟩,⟨by (with_reducible repeat (first | apply Kd.R_alloc | apply Kd.R_drewN | apply Kd.R_drew));exact HO_533000.out⟩,⟨by (with_reducible repeat (first | apply Kd.R_alloc | apply Kd.R_drewN | apply Kd.R_drew));exact HO_533001.out⟩,⟨by (with_reducible repeat (first | refine blk_drewN ?_ _ | refine blk_drew ?_ | refine blk_alloc ?_ _));exact BK522.out⟩,⟨by (with_reducible repeat (first | refine blk_drewN ?_ _ | refine blk_drew ?_ | refine blk_alloc ?_ _));exact BK532.out⟩,⟨by repeat (first | (with_reducible first | exact HB.out | apply below_alloc | apply pw_below_drewN | apply below_drew1 | refine below_set ?_ GE522.out | refine below_set ?_ GE532.out) | exact HB.out)⟩⟩
              case round =>
               as_aux_lemma =>
                clear H'
                (try clear c1);(try clear p1);(try clear q1);(try clear hx1);(try clear hf1);(try clear p2);(try clear p5);(try clear q5);(try clear hx5);(try clear p6);(try clear c8);(try clear c9);(try clear q9);(try clear c10);(try clear p10);(try clear q10);(try clear hx10);(try clear hf10);(try clear c11);(try clear p55);(try clear q55);(try clear hx55);(try clear p56);(try clear q56);(try clear hx56);(try clear p64);(try clear c86);(try clear c86b0);(try clear c87);(try clear c94);(try clear c95);(try clear q96);(try clear c101);(try clear c102);(try clear c103);(try clear c103b0);(try clear p107);(try clear q107);(try clear hx107);(try clear hf107);(try clear c113);(try clear c113b0);(try clear c113b1);(try clear c114);(try clear c114b0);(try clear c114b1);(try clear c116);(try clear hcz117_0);(try clear hcz117_1);(try clear hfz117_0);(try clear hfz117_1);(try clear hx107_0);(try clear hx555_0);(try clear hx556_0);(try clear hx557_0);(try clear hx558_0);(try clear hx559_0);(try clear hx559_1);(try clear hx559_2);(try clear hx560_0);(try clear hx561_0);(try clear hx561_1);(try clear hx561_2);(try clear hx562_0);(try clear p107);(try clear p555);(try clear p556);(try clear p557);(try clear p558);(try clear p559);(try clear p560);(try clear p561);(try clear p562);(try clear q107);(try clear q555);(try clear q556);(try clear q557);(try clear q558);(try clear q559);(try clear q560);(try clear q561);(try clear q562)
                obtain ⟨x14_3,x15_3,rfl,HA,HK3,HO_9,HO_10,HO_14,HO_533000,HO_533001,BK522,BK532,HB⟩:=hrel
                cases gk with
                | zero => exact absurd HA.out (by simp [lapidarylaw11_WalkOnce.l1])
                | succ k3 =>
                 have H:=HA.out
                 clear HA
                 simp only [lapidarylaw11_WalkOnce.l1] at H
                 by_cases c120 : x15_3 < (t546.length : Int)
                 ·rw [if_pos c120] at H
                  have c120b0 : decide (x15_3 < (t546.length : Int)) = true:=decide_eq_true c120
                  clear c120
                  have HC121:=aMx16 H
                  clear H
                  obtain ⟨Ao122,co122,eo122⟩:=Kd.R_slice HO_10.out
                  subst eo122
                  go_upto_region 22 with (fail)
                  go_cut [191] (fun v191 wc => ∃ (kq : Nat) (x191_120 : Bool),v191 = .bool x191_120 ∧ Aside0 (lapidarylaw11_WalkOnce.j3 kq t543 t546 x14_3 x15_3 x191_120 l0_0 l0_1 t525 t528 = some r) ∧ Aside0 (kq ≤ k3) ∧ Aside0 (Kd.R (Kd.int .i64) 3 wc w.heap.size (fun k_ => some k_ ≠ ((.slice Ao122 t546.length co122) : Value).ownBlock) (.slice Ao115 t543.length co115) t543) ∧ Aside0 (Kd.R (Kd.int .i64) 3 wc w.heap.size (fun k_ => some k_ ≠ ((.slice Ao115 t543.length co115) : Value).ownBlock) (.slice Ao122 t546.length co122) t546) ∧ Aside0 (Kd.R Kd.bool 4 wc w.heap.size (fun _ => True) v565 x14_3) ∧ Aside0 (Kd.R k46 46 wc w.heap.size (fun _ => True) (.slice Ao21 t525.length co21) t525) ∧ Aside0 (Kd.R k47 47 wc w.heap.size (fun _ => True) (.slice Ao24 t528.length co24) t528) ∧ Aside0 (wc.heap[gb522]? = some (.cells #[(.slice A0_0 l0_0.length c0_0),(.slice A0_1 l0_1.length c0_1)] 25 (0,0))) ∧ Aside0 (wc.heap[gb532]? = some (.cells #[(.slice Ao21 t525.length co21),(.slice Ao24 t528.length co24)] 25 (0,0))) ∧ Aside0 (Below w.heap.size w wc))
                  case first =>
                   have H:=HC121.out
                   clear HC121
                   by_cases c123 : 0 ≤ x15_3
                   ·rw [if_pos c123] at H
                    have c123b0 : decide (0 ≤ x15_3) = true:=decide_eq_true c123
                    clear c123
                    (first | rw [c123b0] | (simp only [i64_w,i32_w];rw [c123b0]) | skip)
                    by_cases c124 : (rd t546 x15_3) < 0
                    ·rw [if_pos c124] at H
                     exact absurd H (by rw [HRT.out];exact j3no _ _ _ _ _ _ _ _ _)
                    ·rw [if_neg c124] at H
                     have c124b0 : decide ((rd t546 x15_3) < 0) = false:=decide_eq_false c124
                     clear c124
                     by_cases c126 : (rd t546 x15_3) ≥ (l0_1.length : Int)
                     ·rw [if_pos c126] at H
                      exact absurd H (by rw [HRT.out];exact j3no _ _ _ _ _ _ _ _ _)
                     ·rw [if_neg c126] at H
                      have c126b0 : decide ((l0_1.length : Int) ≤ (rd t546 x15_3)) = false:=decide_eq_false c126
                      clear c126
                      by_cases c128 : 0 ≤ (rd t546 x15_3)
                      ·rw [if_pos c128] at H
                       have c128b0 : decide (0 ≤ (rd t546 x15_3)) = true:=decide_eq_true c128
                       clear c128
                       by_cases c129 : (rd t546 x15_3) < (x14_3.length : Int)
                       ·rw [if_pos c129] at H
                        have c129b0 : decide ((rd t546 x15_3) < (x14_3.length : Int)) = true:=decide_eq_true c129
                        clear c129
                        have H':=aMx16 H
                        clear H
                        try go_wp2
                        have n0_:=aMx16 (Kd.R_drew HO_9.out)
                        have n1_:=aMx16 (Kd.R_drew HO_10.out)
                        have n2_:=aMx16 (Kd.R_drew HO_14.out)
                        have n3_:=aMx16 (Kd.R_drew HO_533000.out)
                        have n4_:=aMx16 (Kd.R_drew HO_533001.out)
                        have n5_:=aMx16 (blk_drew BK522.out)
                        have n6_:=aMx16 (blk_drew BK532.out)
                        have n7_:=aMx16 (below_drew1 HB.out)
                        clear HO_9
                        clear HO_10
                        clear HO_14
                        clear HO_533000
                        clear HO_533001
                        clear BK522
                        clear BK532
                        clear HB
                        have HO_9:=n0_
                        have HO_10:=n1_
                        have HO_14:=n2_
                        have HO_533000:=n3_
                        have HO_533001:=n4_
                        have BK522:=n5_
                        have BK532:=n6_
                        have HB:=n7_
                        clear n0_ n1_ n2_ n3_ n4_ n5_ n6_ n7_
                        have p568 : 0 ≤ (x15_3 : Int):=of_decide_eq_true (by first | (with_reducible assumption) | assumption)
                        have q568 : x15_3 < (t546.length : Int):=of_decide_eq_true (by first | (with_reducible assumption) | assumption)
                        obtain ⟨ad568,e568,hx568_0⟩:=Kd.at_int (Kd.R_reads' HO_10.out).2.2 x15_3 p568 q568
                        cases e568
                        replace p568:=eq_true p568
                        replace q568:=eq_true q568
                        have p569 : 0 ≤ (x15_3 : Int):=of_decide_eq_true (by first | (with_reducible assumption) | assumption)
                        have q569 : x15_3 < (t546.length : Int):=of_decide_eq_true (by first | (with_reducible assumption) | assumption)
                        obtain ⟨ad569,e569,hx569_0⟩:=Kd.at_int (Kd.R_reads' HO_10.out).2.2 x15_3 p569 q569
                        obtain rfl : ad568 = ad569:=(by injection e569)
                        replace p569:=eq_true p569
                        replace q569:=eq_true q569
                        have p570 : 0 ≤ (x15_3 : Int):=of_decide_eq_true (by first | (with_reducible assumption) | assumption)
                        have q570 : x15_3 < (t546.length : Int):=of_decide_eq_true (by first | (with_reducible assumption) | assumption)
                        obtain ⟨ad570,e570,hx570_0⟩:=Kd.at_int (Kd.R_reads' HO_10.out).2.2 x15_3 p570 q570
                        obtain rfl : ad568 = ad570:=(by injection e570)
                        replace p570:=eq_true p570
                        replace q570:=eq_true q570
                        obtain ⟨Ao131,co131,eo131⟩:=Kd.R_slice HO_14.out
                        (first | subst eo131 | (injection eo131 with f1_ f2_ f3_;have f4_:=f1_.symm;have f5_:=f3_.symm;clear f1_ f2_ f3_;subst f4_;subst f5_))
                        have p571 : 0 ≤ ((rd t546 x15_3) : Int):=of_decide_eq_true (by first | (with_reducible assumption) | assumption)
                        have q571 : (rd t546 x15_3) < (x14_3.length : Int):=of_decide_eq_true (by first | (with_reducible assumption) | assumption)
                        obtain ⟨ad571,e571,hx571_0⟩:=Kd.at_bool (Kd.R_reads' HO_14.out).2.2 (rd t546 x15_3) p571 q571
                        cases e571
                        replace p571:=eq_true p571
                        replace q571:=eq_true q571
                        as_aux_lemma =>
                         refine start_ (n:=24) (S:=fun w' => w'.cell? ⟨gb522,0,none⟩ = some (.slice A0_0 l0_0.length c0_0) ∧ w'.cell? ⟨gb522,1,none⟩ = some (.slice A0_1 l0_1.length c0_1) ∧ w'.cell? (ad568.add (x15_3).toNat) = some (.int .i64 (rd t546 x15_3)) ∧ w'.cell? (ad568.add (x15_3).toNat) = some (.int .i64 (rd t546 x15_3)) ∧ w'.cell? (ad568.add (x15_3).toNat) = some (.int .i64 (rd t546 x15_3)) ∧ w'.cell? (ad571.add ((rd t546 x15_3)).toNat) = some (.bool (rdOf false x14_3 (rd t546 x15_3)))) (ds:=[]) (flx16 0 24) (by kernel_rfl) rfl rfl ⟨(blk_cell BK522.out 0).trans rfl,(blk_cell BK522.out 1).trans rfl,hx568_0,hx569_0,hx570_0,hx571_0⟩ (fun hHeld => ?_);refine with_tabW lapidarylaw11_WalkOnce.tab22 lapidarylaw11_WalkOnce.bits22 (fun HT_ HW_ => ?_)
                         generalize wr.drew = w130 at HO_9 HO_10 HO_14 HO_533000 HO_533001 BK522 BK532 HB hx568_0 hx569_0 hx570_0 hx571_0 hHeld ⊢
                         refine pure_ (i:=0) (N:=some 168) (v:=?_) (a':=?_) (flx16 1 23) rfl rfl (any_of HT_.out (by kernel_rfl)) (fun _ _ _ h => h) (Or.inl ⟨by rfl,?_⟩) ?_ ?_
                         rotate_left
                         ·intro w'
                          go_simp
                          with_reducible rfl
                         rotate_left
                         ·simp only [Act.put,sAx16,sBx16,sCx16,i64_w,i32_w]
                          rfl
                         refine pure_ (i:=1) (N:=some 169) (v:=?_) (a':=?_) (flx16 2 22) rfl rfl (any_of HT_.out (by kernel_rfl)) (fun _ _ _ h => h) (Or.inl ⟨by rfl,?_⟩) ?_ ?_
                         rotate_left
                         ·intro w'
                          go_simp
                          with_reducible rfl
                         rotate_left
                         ·simp only [Act.put,sAx16,sBx16,sCx16,i64_w,i32_w]
                          rfl
                         refine pure_ (i:=2) (N:=some 170) (v:=?_) (a':=?_) (flx16 3 21) rfl rfl (any_of HT_.out (by kernel_rfl)) (fun _ _ _ h => h) (Or.inl ⟨by rfl,?_⟩) ?_ ?_
                         rotate_left
                         ·intro w'
                          go_simp
                          with_reducible rfl
                         rotate_left
                         ·simp only [Act.put,sAx16,sBx16,sCx16,i64_w,i32_w]
                          rfl
                         refine take_ (i:=3) (N:=some 171) (v:=?_) (a':=?_) (flx16 4 20) rfl rfl (take_ofW HT_.out HW_.out (by kernel_rfl)) (fun _ _ _ h => h) (Or.inl ⟨by rfl,?_⟩) hHeld ?_ ?_
                         rotate_left
                         ·rintro w' ⟨s0,s1,s2,s3,s4,s5⟩
                          go_simp
                          with_reducible rfl
                         rotate_left
                         ·simp only [Act.put,sAx16,sBx16,sCx16,i64_w,i32_w]
                          rfl
                         refine pure_ (i:=4) (N:=some 172) (v:=?_) (a':=?_) (flx16 5 19) rfl rfl (any_of HT_.out (by kernel_rfl)) (fun _ _ _ h => h) (Or.inl ⟨by rfl,?_⟩) ?_ ?_
                         rotate_left
                         ·intro w'
                          go_simp
                          with_reducible rfl
                         rotate_left
                         ·simp only [Act.put,sAx16,sBx16,sCx16,i64_w,i32_w]
                          rfl
                         refine pure_ (i:=5) (N:=some 173) (v:=?_) (a':=?_) (flx16 6 18) rfl rfl (any_of HT_.out (by kernel_rfl)) (fun _ _ _ h => h) (Or.inl ⟨by rfl,?_⟩) ?_ ?_
                         rotate_left
                         ·intro w'
                          go_simp
                          with_reducible rfl
                         rotate_left
                         ·simp only [Act.put,sAx16,sBx16,sCx16,i64_w,i32_w]
                          rfl
                         refine pure_ (i:=6) (N:=some 174) (v:=?_) (a':=?_) (flx16 7 17) rfl rfl (any_of HT_.out (by kernel_rfl)) (fun _ _ _ h => h) (Or.inl ⟨by rfl,?_⟩) ?_ ?_
                         rotate_left
                         ·intro w'
                          go_simp
                          with_reducible rfl
                         rotate_left
                         ·simp only [Act.put,sAx16,sBx16,sCx16,i64_w,i32_w]
                          rfl
                         refine pure_ (i:=7) (N:=some 175) (v:=?_) (a':=?_) (flx16 8 16) rfl rfl (any_of HT_.out (by kernel_rfl)) (fun _ _ _ h => h) (Or.inl ⟨by rfl,?_⟩) ?_ ?_
                         rotate_left
                         ·intro w'
                          go_simp
                          with_reducible rfl
                         rotate_left
                         ·simp only [Act.put,sAx16,sBx16,sCx16,i64_w,i32_w]
                          rfl
                         refine pure_ (i:=8) (N:=some 176) (v:=?_) (a':=?_) (flx16 9 15) rfl rfl (any_of HT_.out (by kernel_rfl)) (fun _ _ _ h => h) (Or.inl ⟨by rfl,?_⟩) ?_ ?_
                         rotate_left
                         ·intro w'
                          go_simp
                          with_reducible rfl
                         rotate_left
                         ·simp only [Act.put,sAx16,sBx16,sCx16,i64_w,i32_w]
                          rfl
                         refine pure_ (i:=10) (N:=some 178) (v:=?_) (a':=?_) #[true,true,true,true,true,true,true,true,true,false,true,false,false,false,false,false,false,false,false,false,false,false,false,false] rfl rfl (any_of HT_.out (by kernel_rfl)) (fun _ _ _ h => h) (Or.inl ⟨by rfl,?_⟩) ?_ ?_
                         rotate_left
                         ·intro w'
                          go_simp
                          with_reducible rfl
                         rotate_left
                         ·simp only [Act.put,sAx16,sBx16,sCx16,i64_w,i32_w]
                          rfl
                         refine take_ (i:=9) (N:=some 177) (v:=?_) (a':=?_) (flx16 11 13) rfl rfl (take_ofW HT_.out HW_.out (by kernel_rfl)) (fun _ _ _ h => h) (Or.inl ⟨by rfl,?_⟩) hHeld ?_ ?_
                         rotate_left
                         ·rintro w' ⟨s0,s1,s2,s3,s4,s5⟩
                          go_simp
                          with_reducible rfl
                         rotate_left
                         ·simp only [Act.put,sAx16,sBx16,sCx16,i64_w,i32_w]
                          rfl
                         refine take_ (i:=11) (N:=some 179) (v:=?_) (a':=?_) (flx16 12 12) rfl rfl (take_ofW HT_.out HW_.out (by kernel_rfl)) (fun _ _ _ h => h) (Or.inl ⟨by rfl,?_⟩) hHeld ?_ ?_
                         rotate_left
                         ·rintro w' ⟨s0,s1,s2,s3,s4,s5⟩
                          go_simp
                          with_reducible rfl
                         rotate_left
                         ·simp only [Act.put,sAx16,sBx16,sCx16,i64_w,i32_w]
                          rfl
                         refine pure_ (i:=12) (N:=some 180) (v:=?_) (a':=?_) (flx16 13 11) rfl rfl (any_of HT_.out (by kernel_rfl)) (fun _ _ _ h => h) (Or.inl ⟨by rfl,?_⟩) ?_ ?_
                         rotate_left
                         ·intro w'
                          go_simp
                          with_reducible rfl
                         rotate_left
                         ·simp only [Act.put,sAx16,sBx16,sCx16,i64_w,i32_w]
                          rfl
                         refine pure_ (i:=13) (N:=some 181) (v:=?_) (a':=?_) (flx16 14 10) rfl rfl (any_of HT_.out (by kernel_rfl)) (fun _ _ _ h => h) (Or.inl ⟨by rfl,?_⟩) ?_ ?_
                         rotate_left
                         ·intro w'
                          go_simp
                          with_reducible rfl
                         rotate_left
                         ·simp only [Act.put,sAx16,sBx16,sCx16,i64_w,i32_w]
                          rfl
                         refine pure_ (i:=14) (N:=some 182) (v:=?_) (a':=?_) (flx16 15 9) rfl rfl (any_of HT_.out (by kernel_rfl)) (fun _ _ _ h => h) (Or.inl ⟨by rfl,?_⟩) ?_ ?_
                         rotate_left
                         ·intro w'
                          go_simp
                          with_reducible rfl
                         rotate_left
                         ·simp only [Act.put,sAx16,sBx16,sCx16,i64_w,i32_w]
                          rfl
                         refine pure_ (i:=15) (N:=some 183) (v:=?_) (a':=?_) (flx16 16 8) rfl rfl (any_of HT_.out (by kernel_rfl)) (fun _ _ _ h => h) (Or.inl ⟨by rfl,?_⟩) ?_ ?_
                         rotate_left
                         ·intro w'
                          go_simp
                          with_reducible rfl
                         rotate_left
                         ·simp only [Act.put,sAx16,sBx16,sCx16,i64_w,i32_w]
                          rfl
                         refine pure_ (i:=16) (N:=some 184) (v:=?_) (a':=?_) (flx16 17 7) rfl rfl (any_of HT_.out (by kernel_rfl)) (fun _ _ _ h => h) (Or.inl ⟨by rfl,?_⟩) ?_ ?_
                         rotate_left
                         ·intro w'
                          go_simp
                          with_reducible rfl
                         rotate_left
                         ·simp only [Act.put,sAx16,sBx16,sCx16,i64_w,i32_w]
                          rfl
                         refine pure_ (i:=17) (N:=some 185) (v:=?_) (a':=?_) (flx16 18 6) rfl rfl (any_of HT_.out (by kernel_rfl)) (fun _ _ _ h => h) (Or.inl ⟨by rfl,?_⟩) ?_ ?_
                         rotate_left
                         ·intro w'
                          go_simp
                          with_reducible rfl
                         rotate_left
                         ·simp only [Act.put,sAx16,sBx16,sCx16,i64_w,i32_w]
                          rfl
                         refine pure_ (i:=18) (N:=some 186) (v:=?_) (a':=?_) (flx16 19 5) rfl rfl (any_of HT_.out (by kernel_rfl)) (fun _ _ _ h => h) (Or.inl ⟨by rfl,?_⟩) ?_ ?_
                         rotate_left
                         ·intro w'
                          go_simp
                          with_reducible rfl
                         rotate_left
                         ·simp only [Act.put,sAx16,sBx16,sCx16,i64_w,i32_w]
                          rfl
                         refine pure_ (i:=19) (N:=some 187) (v:=?_) (a':=?_) (flx16 20 4) rfl rfl (any_of HT_.out (by kernel_rfl)) (fun _ _ _ h => h) (Or.inl ⟨by rfl,?_⟩) ?_ ?_
                         rotate_left
                         ·intro w'
                          go_simp
                          with_reducible rfl
                         rotate_left
                         ·simp only [Act.put,sAx16,sBx16,sCx16,i64_w,i32_w]
                          rfl
                         refine take_ (i:=20) (N:=some 188) (v:=?_) (a':=?_) (flx16 21 3) rfl rfl (take_ofW HT_.out HW_.out (by kernel_rfl)) (fun _ _ _ h => h) (Or.inl ⟨by rfl,?_⟩) hHeld ?_ ?_
                         rotate_left
                         ·rintro w' ⟨s0,s1,s2,s3,s4,s5⟩
                          go_simp
                          with_reducible rfl
                         rotate_left
                         ·simp only [Act.put,sAx16,sBx16,sCx16,i64_w,i32_w]
                          rfl
                         refine pure_ (i:=21) (N:=some 189) (v:=?_) (a':=?_) (flx16 22 2) rfl rfl (any_of HT_.out (by kernel_rfl)) (fun _ _ _ h => h) (Or.inl ⟨by rfl,?_⟩) ?_ ?_
                         rotate_left
                         ·intro w'
                          go_simp
                          with_reducible rfl
                         rotate_left
                         ·simp only [Act.put,sAx16,sBx16,sCx16,i64_w,i32_w]
                          rfl
                         refine take_ (i:=22) (N:=some 190) (v:=?_) (a':=?_) (flx16 23 1) rfl rfl (take_ofW HT_.out HW_.out (by kernel_rfl)) (fun _ _ _ h => h) (Or.inl ⟨by rfl,?_⟩) hHeld ?_ ?_
                         rotate_left
                         ·rintro w' ⟨s0,s1,s2,s3,s4,s5⟩
                          go_simp
                          with_reducible rfl
                         rotate_left
                         ·simp only [Act.put,sAx16,sBx16,sCx16,i64_w,i32_w]
                          rfl
                         refine pure_ (i:=23) (N:=some 191) (v:=?_) (a':=?_) (flx16 24 0) rfl rfl (any_of HT_.out (by kernel_rfl)) (fun _ _ _ h => h) (Or.inl ⟨by rfl,?_⟩) ?_ ?_
                         rotate_left
                         ·intro w'
                          go_simp
                          with_reducible rfl
                         rotate_left
                         ·simp only [Act.put,sAx16,sBx16,sCx16,i64_w,i32_w]
                          rfl
                         refine done_ (done_of HT_.out (by kernel_rfl)) ?_
                         try go_wp2
                         go_meet
                         case rel => exact ⟨_,(rdOf false x14_3 (rd t546 x15_3)),(by first | rfl | (simp;done) | (simp [*];done) | (simp [wrap64];done)),H',⟨by have:=HJ13.out;have:=HK2.out;have:=HK3.out;first | omega | exact Nat.le_refl _⟩,⟨by (with_reducible repeat (first | apply Kd.R_alloc | apply Kd.R_drewN | apply Kd.R_drew));exact HO_9.out⟩,⟨by (with_reducible repeat (first | apply Kd.R_alloc | apply Kd.R_drewN | apply Kd.R_drew));exact HO_10.out⟩,⟨by (with_reducible repeat (first | apply Kd.R_alloc | apply Kd.R_drewN | apply Kd.R_drew));exact HO_14.out⟩,⟨by (with_reducible repeat (first | apply Kd.R_alloc | apply Kd.R_drewN | apply Kd.R_drew));exact HO_533000.out⟩,⟨by (with_reducible repeat (first | apply Kd.R_alloc | apply Kd.R_drewN | apply Kd.R_drew));exact HO_533001.out⟩,⟨by (with_reducible repeat (first | refine blk_drewN ?_ _ | refine blk_drew ?_ | refine blk_alloc ?_ _));exact BK522.out⟩,⟨by (with_reducible repeat (first | refine blk_drewN ?_ _ | refine blk_drew ?_ | refine blk_alloc ?_ _));exact BK532.out⟩,⟨by repeat (first | (with_reducible first | exact HB.out | apply below_alloc | apply pw_below_drewN | apply below_drew1 | refine below_set ?_ GE522.out | refine below_set ?_ GE532.out) | exact HB.out)⟩⟩
                       ·rw [if_neg c129] at H
                        exact absurd H (by simp)
                      ·rw [if_neg c128] at H
                       exact absurd H (by simp)
                   ·rw [if_neg c123] at H
                    exact absurd H (by simp)
                  case rest =>
                   clear HC121
                   (try clear c1);(try clear p2);(try clear p5);(try clear q5);(try clear hx5);(try clear c12);(try clear p56);(try clear q56);(try clear hx56);(try clear p57);(try clear q57);(try clear hx57);(try clear c123);(try clear c124);(try clear c124b0);(try clear c126);(try clear c126b0);(try clear c128);(try clear c128b0);(try clear c129);(try clear c129b0);(try clear hx568_0);(try clear hx569_0);(try clear hx570_0);(try clear hx571_0);(try clear p568);(try clear p569);(try clear p570);(try clear p571);(try clear q568);(try clear q569);(try clear q570);(try clear q571)
                   obtain ⟨kq,x191_120,rfl,HA,HJ120,HO_9,HO_10,HO_14,HO_533000,HO_533001,BK522,BK532,HB⟩:=hcut
                   cases kq with
                   | zero => exact absurd HA.out (by simp [lapidarylaw11_WalkOnce.j3])
                   | succ kj120 =>
                    have H:=HA.out
                    clear HA
                    simp only [lapidarylaw11_WalkOnce.j3] at H
                    by_cases c132 : x191_120 = true
                    ·subst c132
                     have H1 : (some false) = some r:=by rw [if_pos rfl] at H;exact H
                     exact absurd (Option.some.inj H1) (by rw [HRT.out];decide)
                    ·replace c132:=Bool.eq_false_iff.mpr c132
                     subst c132
                     have H1 : (if 0 ≤ x15_3 then (if x15_3 < (t546.length : Int) then (if 0 ≤ (rd t546 x15_3) then (if (rd t546 x15_3) < (x14_3.length : Int) then (if x15_3 < (t528.length : Int) then (if (rd t546 x15_3) < (l0_1.length : Int) then (if 0 ≤ ((rd_T47 t528 x15_3).f0) then (if ((rd_T47 t528 x15_3).f0) < (t543.length : Int) then (if 0 ≤ ((rd_T47 t528 x15_3).f1) then (if ((rd_T47 t528 x15_3).f1) < (t543.length : Int) then ((lapidaryref10_Has.f kj120 (([(⟨(rd_T47 l0_1 (rd t546 x15_3)).f0,(rd_T47 l0_1 (rd t546 x15_3)).f1,(rd_T47 l0_1 (rd t546 x15_3)).f2⟩ : S47)] : List (S47))) (rd t543 ((rd_T47 t528 x15_3).f0)) (rd t543 ((rd_T47 t528 x15_3).f1))).bind fun t583 => (if t583 = 0 then (if 0 ≤ ((rd_T47 t528 x15_3).f2) then (if ((rd_T47 t528 x15_3).f2) < (t543.length : Int) then ((lapidaryref10_Has.f kj120 (([(⟨(rd_T47 l0_1 (rd t546 x15_3)).f0,(rd_T47 l0_1 (rd t546 x15_3)).f1,(rd_T47 l0_1 (rd t546 x15_3)).f2⟩ : S47)] : List (S47))) (rd t543 ((rd_T47 t528 x15_3).f1)) (rd t543 ((rd_T47 t528 x15_3).f2))).bind fun t591 => (if t591 = 0 then (lapidarylaw11_WalkOnce.l1 kj120 t543 t546 (x14_3.set ((rd t546 x15_3) : Int).toNat true) (wrap64 (x15_3+1)) l0_0 l0_1 t525 t528) else (some false))) else (none)) else (none)) else (some false))) else (none)) else (none)) else (none)) else (none)) else (none)) else (none)) else (none)) else (none)) else (none)) else (none)) = some r:=by rw [if_neg (show ¬ (false = true) by decide)] at H;exact H
                     clear H
                     have H:=H1
                     clear H1
                     by_cases c133 : 0 ≤ x15_3
                     ·rw [if_pos c133] at H
                      have c133b0 : decide (0 ≤ x15_3) = true:=decide_eq_true c133
                      clear c133
                      by_cases c134 : x15_3 < (t546.length : Int)
                      ·rw [if_pos c134] at H
                       have c134b0 : decide (x15_3 < (t546.length : Int)) = true:=decide_eq_true c134
                       clear c134
                       by_cases c135 : 0 ≤ (rd t546 x15_3)
                       ·rw [if_pos c135] at H
                        have c135b0 : decide (0 ≤ (rd t546 x15_3)) = true:=decide_eq_true c135
                        clear c135
                        by_cases c136 : (rd t546 x15_3) < (x14_3.length : Int)
                        ·rw [if_pos c136] at H
                         have c136b0 : decide ((rd t546 x15_3) < (x14_3.length : Int)) = true:=decide_eq_true c136
                         clear c136
                         obtain ⟨y573,hy573⟩ : ∃ y_ : List Bool,y_ = (x14_3.set ((rd t546 x15_3) : Int).toNat true):=⟨_,rfl⟩
                         replace H : (if x15_3 < (t528.length : Int) then (if (rd t546 x15_3) < (l0_1.length : Int) then (if 0 ≤ ((rd_T47 t528 x15_3).f0) then (if ((rd_T47 t528 x15_3).f0) < (t543.length : Int) then (if 0 ≤ ((rd_T47 t528 x15_3).f1) then (if ((rd_T47 t528 x15_3).f1) < (t543.length : Int) then ((lapidaryref10_Has.f kj120 (([(⟨(rd_T47 l0_1 (rd t546 x15_3)).f0,(rd_T47 l0_1 (rd t546 x15_3)).f1,(rd_T47 l0_1 (rd t546 x15_3)).f2⟩ : S47)] : List (S47))) (rd t543 ((rd_T47 t528 x15_3).f0)) (rd t543 ((rd_T47 t528 x15_3).f1))).bind fun t583 => (if t583 = 0 then (if 0 ≤ ((rd_T47 t528 x15_3).f2) then (if ((rd_T47 t528 x15_3).f2) < (t543.length : Int) then ((lapidaryref10_Has.f kj120 (([(⟨(rd_T47 l0_1 (rd t546 x15_3)).f0,(rd_T47 l0_1 (rd t546 x15_3)).f1,(rd_T47 l0_1 (rd t546 x15_3)).f2⟩ : S47)] : List (S47))) (rd t543 ((rd_T47 t528 x15_3).f1)) (rd t543 ((rd_T47 t528 x15_3).f2))).bind fun t591 => (if t591 = 0 then (lapidarylaw11_WalkOnce.l1 kj120 t543 t546 y573 (wrap64 (x15_3+1)) l0_0 l0_1 t525 t528) else (some false))) else (none)) else (none)) else (some false))) else (none)) else (none)) else (none)) else (none)) else (none)) else (none)) = some r:=by first | (rw [hy573];with_reducible exact H) | (have H2_:=(Option.bind_some _ _).symm.trans H;rw [hy573];with_reducible exact H2_) | (have H2_:=(Option.bind_some _ _).symm.trans H;with_reducible exact H2_) | with_reducible exact H | (rw [hy573];exact H) | exact H
                         have Ny573:=aMx16 hy573
                         clear hy573
                         by_cases c138 : x15_3 < (t528.length : Int)
                         ·rw [if_pos c138] at H
                          have c138b0 : decide (x15_3 < (t528.length : Int)) = true:=decide_eq_true c138
                          clear c138
                          by_cases c139 : (rd t546 x15_3) < (l0_1.length : Int)
                          ·rw [if_pos c139] at H
                           have c139b0 : decide ((rd t546 x15_3) < (l0_1.length : Int)) = true:=decide_eq_true c139
                           clear c139
                           obtain ⟨y578,hy578⟩ : ∃ y_ : List (S47),y_ = (([(⟨(rd_T47 l0_1 (rd t546 x15_3)).f0,(rd_T47 l0_1 (rd t546 x15_3)).f1,(rd_T47 l0_1 (rd t546 x15_3)).f2⟩ : S47)] : List (S47))):=⟨_,rfl⟩
                           replace H : (if 0 ≤ ((rd_T47 t528 x15_3).f0) then (if ((rd_T47 t528 x15_3).f0) < (t543.length : Int) then (if 0 ≤ ((rd_T47 t528 x15_3).f1) then (if ((rd_T47 t528 x15_3).f1) < (t543.length : Int) then ((lapidaryref10_Has.f kj120 y578 (rd t543 ((rd_T47 t528 x15_3).f0)) (rd t543 ((rd_T47 t528 x15_3).f1))).bind fun t583 => (if t583 = 0 then (if 0 ≤ ((rd_T47 t528 x15_3).f2) then (if ((rd_T47 t528 x15_3).f2) < (t543.length : Int) then ((lapidaryref10_Has.f kj120 (([(⟨(rd_T47 l0_1 (rd t546 x15_3)).f0,(rd_T47 l0_1 (rd t546 x15_3)).f1,(rd_T47 l0_1 (rd t546 x15_3)).f2⟩ : S47)] : List (S47))) (rd t543 ((rd_T47 t528 x15_3).f1)) (rd t543 ((rd_T47 t528 x15_3).f2))).bind fun t591 => (if t591 = 0 then (lapidarylaw11_WalkOnce.l1 kj120 t543 t546 y573 (wrap64 (x15_3+1)) l0_0 l0_1 t525 t528) else (some false))) else (none)) else (none)) else (some false))) else (none)) else (none)) else (none)) else (none)) = some r:=by first | (rw [hy578];with_reducible exact H) | (have H2_:=(Option.bind_some _ _).symm.trans H;rw [hy578];with_reducible exact H2_) | (have H2_:=(Option.bind_some _ _).symm.trans H;with_reducible exact H2_) | with_reducible exact H | (rw [hy578];exact H) | exact H
                           have Ny578:=aMx16 hy578
                           clear hy578
                           by_cases c140 : 0 ≤ ((rd_T47 t528 x15_3).f0)
                           ·rw [if_pos c140] at H
                            have c140b0 : decide (0 ≤ ((rd_T47 t528 x15_3).f0)) = true:=decide_eq_true c140
                            clear c140
                            by_cases c141 : ((rd_T47 t528 x15_3).f0) < (t543.length : Int)
                            ·rw [if_pos c141] at H
                             have c141b0 : decide (((rd_T47 t528 x15_3).f0) < (t543.length : Int)) = true:=decide_eq_true c141
                             clear c141
                             by_cases c142 : 0 ≤ ((rd_T47 t528 x15_3).f1)
                             ·rw [if_pos c142] at H
                              have c142b0 : decide (0 ≤ ((rd_T47 t528 x15_3).f1)) = true:=decide_eq_true c142
                              clear c142
                              by_cases c143 : ((rd_T47 t528 x15_3).f1) < (t543.length : Int)
                              ·rw [if_pos c143] at H
                               have c143b0 : decide (((rd_T47 t528 x15_3).f1) < (t543.length : Int)) = true:=decide_eq_true c143
                               clear c143
                               replace H:=Option.bind_eq_some_iff.mp H
                               obtain ⟨t583,A1440,H⟩:=H
                               replace H : (if t583 = 0 then (if 0 ≤ ((rd_T47 t528 x15_3).f2) then (if ((rd_T47 t528 x15_3).f2) < (t543.length : Int) then ((lapidaryref10_Has.f kj120 (([(⟨(rd_T47 l0_1 (rd t546 x15_3)).f0,(rd_T47 l0_1 (rd t546 x15_3)).f1,(rd_T47 l0_1 (rd t546 x15_3)).f2⟩ : S47)] : List (S47))) (rd t543 ((rd_T47 t528 x15_3).f1)) (rd t543 ((rd_T47 t528 x15_3).f2))).bind fun t591 => (if t591 = 0 then (lapidarylaw11_WalkOnce.l1 kj120 t543 t546 y573 (wrap64 (x15_3+1)) l0_0 l0_1 t525 t528) else (some false))) else (none)) else (none)) else (some false)) = some r:=H
                               have A144:=aMx16 A1440
                               clear A1440
                               by_cases c145 : t583 = 0
                               ·rw [if_pos c145] at H
                                have c145b0 : (t583 == 0) = true:=beq_iff_eq.mpr c145
                                have c145b1 : (t583 != 0) = false:=bne_eq_false_iff_eq.mpr c145
                                clear c145
                                obtain ⟨y586,hy586⟩ : ∃ y_ : List (S47),y_ = (([(⟨(rd_T47 l0_1 (rd t546 x15_3)).f0,(rd_T47 l0_1 (rd t546 x15_3)).f1,(rd_T47 l0_1 (rd t546 x15_3)).f2⟩ : S47)] : List (S47))):=⟨_,rfl⟩
                                replace H : (if 0 ≤ ((rd_T47 t528 x15_3).f2) then (if ((rd_T47 t528 x15_3).f2) < (t543.length : Int) then ((lapidaryref10_Has.f kj120 y586 (rd t543 ((rd_T47 t528 x15_3).f1)) (rd t543 ((rd_T47 t528 x15_3).f2))).bind fun t591 => (if t591 = 0 then (lapidarylaw11_WalkOnce.l1 kj120 t543 t546 y573 (wrap64 (x15_3+1)) l0_0 l0_1 t525 t528) else (some false))) else (none)) else (none)) = some r:=by first | (rw [hy586];with_reducible exact H) | (have H2_:=(Option.bind_some _ _).symm.trans H;rw [hy586];with_reducible exact H2_) | (have H2_:=(Option.bind_some _ _).symm.trans H;with_reducible exact H2_) | with_reducible exact H | (rw [hy586];exact H) | exact H
                                have Ny586:=aMx16 hy586
                                clear hy586
                                by_cases c146 : 0 ≤ ((rd_T47 t528 x15_3).f2)
                                ·rw [if_pos c146] at H
                                 have c146b0 : decide (0 ≤ ((rd_T47 t528 x15_3).f2)) = true:=decide_eq_true c146
                                 clear c146
                                 by_cases c147 : ((rd_T47 t528 x15_3).f2) < (t543.length : Int)
                                 ·rw [if_pos c147] at H
                                  have c147b0 : decide (((rd_T47 t528 x15_3).f2) < (t543.length : Int)) = true:=decide_eq_true c147
                                  clear c147
                                  replace H:=Option.bind_eq_some_iff.mp H
                                  obtain ⟨t591,A1480,H⟩:=H
                                  replace H : (if t591 = 0 then (lapidarylaw11_WalkOnce.l1 kj120 t543 t546 y573 (wrap64 (x15_3+1)) l0_0 l0_1 t525 t528) else (some false)) = some r:=H
                                  have A148:=aMx16 A1480
                                  clear A1480
                                  by_cases c149 : t591 = 0
                                  ·rw [if_pos c149] at H
                                   have c149b0 : (t591 == 0) = true:=beq_iff_eq.mpr c149
                                   have c149b1 : (t591 != 0) = false:=bne_eq_false_iff_eq.mpr c149
                                   clear c149
                                   have H':=aMx16 H
                                   clear H
                                   have p572 : 0 ≤ (x15_3 : Int):=of_decide_eq_true (by first | (with_reducible assumption) | assumption)
                                   have q572 : x15_3 < (t546.length : Int):=of_decide_eq_true (by first | (with_reducible assumption) | assumption)
                                   obtain ⟨ad572,e572,hx572_0⟩:=Kd.at_int (Kd.R_reads' HO_10.out).2.2 x15_3 p572 q572
                                   cases e572
                                   replace p572:=eq_true p572
                                   replace q572:=eq_true q572
                                   have p137 : 0 ≤ ((rd t546 x15_3) : Int):=of_decide_eq_true (by first | (with_reducible assumption) | assumption)
                                   have q137 : ((rd t546 x15_3) : Int) < ((x14_3.length : Int) : Int):=of_decide_eq_true (by first | (with_reducible assumption) | assumption)
                                   obtain ⟨go137,co137,eo137,gb137,gl137,cl137,HG137⟩:=Kd.R_form HO_14.out (by omega)
                                   (first | cases eo137 | (injection eo137 with ea_ en_ ec_;(first | subst ea_ | (injection ea_ with ea_;subst ea_));subst ec_;clear en_))
                                   have GB137:=aMx16 gb137
                                   have GG137:=aMx16 HG137
                                   clear gb137 gl137 HG137
                                   obtain ⟨hx137_0,hf137_0⟩:=Kd.R_celln false HO_14.out ((rd t546 x15_3) : Int) p137 q137
                                   replace p137:=eq_true p137
                                   replace q137:=eq_true q137
                                   have HP150:=Kd.R_putg HO_14.out ((rd t546 x15_3) : Int) true
                                   try go_wp2_with (first|((with_reducible refine gate_store (t:=4) (p:=197) rfl ?_);refine store_event (t:=4) (p:=197) (v:=?vo_w151) (w1:=(wc.setCell ⟨go137,((rd t546 x15_3) : Int).toNat,none⟩ (.bool true))) ?hg ?ho ?hn ?hr ?_;(case ho => rfl);(case hg => rfl);(case hn => rfl);(case hr => first|(go_simp;done)|(go_simp;rfl));intro w151 hw;have hg : wc.grownBy w151 (some go137):=(by rw [hw];exact HP150.2);have hp_ : Kd.R Kd.bool 4 w151 w.heap.size (fun _ => True) (.slice (some ⟨go137,0,none⟩) x14_3.length co137) y573:=(by rw [hw,Ny573.out];exact HP150.1);clear HP150;have n0_:=aMx16 (Kd.R_over' (v:=(.slice (some ⟨go137,0,none⟩) x14_3.length co137)) (by (with_reducible repeat (first|apply Kd.R_alloc|apply Kd.R_drewN|apply Kd.R_drew));exact HO_9.out) (Kd.R_typed HO_14.out) (by decide) hg);have n1_:=aMx16 (Kd.R_over' (v:=(.slice (some ⟨go137,0,none⟩) x14_3.length co137)) (by (with_reducible repeat (first|apply Kd.R_alloc|apply Kd.R_drewN|apply Kd.R_drew));exact HO_10.out) (Kd.R_typed HO_14.out) (by decide) hg);have n2_:=aMx16 (hp_);have n3_:=aMx16 (Kd.R_over' (v:=(.slice (some ⟨go137,0,none⟩) x14_3.length co137)) (by (with_reducible repeat (first|apply Kd.R_alloc|apply Kd.R_drewN|apply Kd.R_drew));exact HO_533000.out) (Kd.R_typed HO_14.out) (by decide) hg);have n4_:=aMx16 (Kd.R_over' (v:=(.slice (some ⟨go137,0,none⟩) x14_3.length co137)) (by (with_reducible repeat (first|apply Kd.R_alloc|apply Kd.R_drewN|apply Kd.R_drew));exact HO_533001.out) (Kd.R_typed HO_14.out) (by decide) hg);have n5_:=aMx16 (blk_grown (g:=gb522) (o:=.cells #[.slice A0_0 l0_0.length c0_0,.slice A0_1 l0_1.length c0_1] 25 (0,0)) (by (with_reducible repeat (first|refine blk_drewN ?_ _|refine blk_drew ?_|refine blk_alloc ?_ _));exact BK522.out) hg (Kd.R_ne HO_14.out BK522.out (by decide)));have n6_:=aMx16 (blk_grown (g:=gb532) (o:=.cells #[.slice Ao21 t525.length co21,.slice Ao24 t528.length co24] 25 (0,0)) (by (with_reducible repeat (first|refine blk_drewN ?_ _|refine blk_drew ?_|refine blk_alloc ?_ _));exact BK532.out) hg (Kd.R_ne HO_14.out BK532.out (by decide)));have n7_:=aMx16 ((by rw [hw];exact below_set (HB.out) GB137.out : Below w.heap.size w w151));clear HO_9;clear HO_10;clear HO_14;clear HO_533000;clear HO_533001;clear BK522;clear BK532;clear HB;have HO_9:=n0_;have HO_10:=n1_;have HO_14:=n2_;have HO_533000:=n3_;have HO_533001:=n4_;have BK522:=n5_;have BK532:=n6_;have HB:=n7_;clear n0_ n1_ n2_ n3_ n4_ n5_ n6_ n7_;clear hg hw hp_;have hnb152:=NB532_522.out;have hnc152:=NB522_532.out;have hcz153_0 : w151.cell? ⟨gb532,0,none⟩ = some (.slice Ao21 t525.length co21):=(blk_cell BK532.out 0).trans rfl;have hcz153_1 : w151.cell? ⟨gb532,1,none⟩ = some (.slice Ao24 t528.length co24):=(blk_cell BK532.out 1).trans rfl;have hfz153_0:=blk_frozen BK532.out 0;have hfz153_1:=blk_frozen BK532.out 1;have p574 : 0 ≤ (x15_3 : Int):=of_decide_eq_true (by first|(with_reducible assumption)|assumption);have q574 : x15_3 < (t528.length : Int):=of_decide_eq_true (by first|(with_reducible assumption)|assumption);obtain ⟨ad574,e574,hx574_0,hx574_1,hx574_2⟩:=at_T47 (Kd.R_reads' HO_533001.out).2.2 x15_3 p574 q574;cases e574;replace p574:=eq_true p574;replace q574:=eq_true q574)|((with_reducible refine gate_dst (N:=16) rfl ?_);(try (refine gate_guard (by rfl) ?_;dsimp only));refine box_event ?hg (N:=16) ?hd (cs:=#[.int .i64 0,.int .i64 0,.int .i64 0]) (t:=47) ?hr ?_;(case hd => rfl);(case hg => rfl);(case hr => first|(go_simp;done)|(go_simp;rfl));intro gb575 hg w154 hbox hb;have n0_:=aMx16 (Kd.R_below (by (with_reducible repeat (first|apply Kd.R_alloc|apply Kd.R_drewN|apply Kd.R_drew));exact HO_9.out) hb);have n1_:=aMx16 (Kd.R_below (by (with_reducible repeat (first|apply Kd.R_alloc|apply Kd.R_drewN|apply Kd.R_drew));exact HO_10.out) hb);have n2_:=aMx16 (Kd.R_below (by (with_reducible repeat (first|apply Kd.R_alloc|apply Kd.R_drewN|apply Kd.R_drew));exact HO_14.out) hb);have n3_:=aMx16 (Kd.R_below (by (with_reducible repeat (first|apply Kd.R_alloc|apply Kd.R_drewN|apply Kd.R_drew));exact HO_533000.out) hb);have n4_:=aMx16 (Kd.R_below (Kd.R_elderB (by (with_reducible repeat (first|apply Kd.R_alloc|apply Kd.R_drewN|apply Kd.R_drew));exact HO_533001.out) gb575 (Nat.le_of_eq hg.symm)) hb);have n5_:=aMx16 (blk_below (g:=gb522) (o:=.cells #[.slice A0_0 l0_0.length c0_0,.slice A0_1 l0_1.length c0_1] 25 (0,0)) (by (with_reducible repeat (first|refine blk_drewN ?_ _|refine blk_drew ?_|refine blk_alloc ?_ _));exact BK522.out) hb);have n6_:=aMx16 (blk_below (g:=gb532) (o:=.cells #[.slice Ao21 t525.length co21,.slice (some ad574) t528.length co24] 25 (0,0)) (by (with_reducible repeat (first|refine blk_drewN ?_ _|refine blk_drew ?_|refine blk_alloc ?_ _));exact BK532.out) hb);have n7_:=aMx16 (below_step (by repeat (first|(with_reducible first|exact HB.out|apply below_alloc|apply pw_below_drewN|apply below_drew1|refine below_set ?_ GE522.out|refine below_set ?_ GE532.out)|exact HB.out)) hb);have n8_:=aMx16 (hbox);have n9_:=aMx16 ((by rw [hg];exact (below_size (by repeat (first|(with_reducible first|exact HB.out|apply below_alloc|apply pw_below_drewN|apply below_drew1|refine below_set ?_ GE522.out|refine below_set ?_ GE532.out)|exact HB.out))) : w.heap.size ≤ gb575));have n10_:=aMx16 ((by rw [hg];exact (below_size (by repeat (first|(with_reducible first|exact HB.out|apply below_alloc|apply pw_below_drewN|apply below_drew1|refine below_set ?_ GE522.out|refine below_set ?_ GE532.out)|exact HB.out))) : w.heap.size ≤ gb575));have n11_:=aMx16 ((by rw [hg];exact Nat.ne_of_lt (blk_lt (g:=gb522) (o:=.cells #[.slice A0_0 l0_0.length c0_0,.slice A0_1 l0_1.length c0_1] 25 (0,0)) (by (with_reducible repeat (first|refine blk_drewN ?_ _|refine blk_drew ?_|refine blk_alloc ?_ _));exact BK522.out)) : gb522 ≠ gb575));have n12_:=aMx16 ((by rw [hg];exact Nat.ne_of_gt (blk_lt (g:=gb522) (o:=.cells #[.slice A0_0 l0_0.length c0_0,.slice A0_1 l0_1.length c0_1] 25 (0,0)) (by (with_reducible repeat (first|refine blk_drewN ?_ _|refine blk_drew ?_|refine blk_alloc ?_ _));exact BK522.out)) : gb575 ≠ gb522));have n13_:=aMx16 ((by rw [hg];exact Nat.ne_of_lt (blk_lt (g:=gb532) (o:=.cells #[.slice Ao21 t525.length co21,.slice (some ad574) t528.length co24] 25 (0,0)) (by (with_reducible repeat (first|refine blk_drewN ?_ _|refine blk_drew ?_|refine blk_alloc ?_ _));exact BK532.out)) : gb532 ≠ gb575));have n14_:=aMx16 ((by rw [hg];exact Nat.ne_of_gt (blk_lt (g:=gb532) (o:=.cells #[.slice Ao21 t525.length co21,.slice (some ad574) t528.length co24] 25 (0,0)) (by (with_reducible repeat (first|refine blk_drewN ?_ _|refine blk_drew ?_|refine blk_alloc ?_ _));exact BK532.out)) : gb575 ≠ gb532));clear HO_9;clear HO_10;clear HO_14;clear HO_533000;clear HO_533001;clear BK522;clear BK532;clear HB;have HO_9:=n0_;have HO_10:=n1_;have HO_14:=n2_;have HO_533000:=n3_;have HO_533001:=n4_;have BK522:=n5_;have BK532:=n6_;have HB:=n7_;have BK575:=n8_;have GW575:=n9_;have GE575:=n10_;have NB522_575:=n11_;have NB575_522:=n12_;have NB532_575:=n13_;have NB575_532:=n14_;clear n0_ n1_ n2_ n3_ n4_ n5_ n6_ n7_ n8_ n9_ n10_ n11_ n12_ n13_ n14_;clear hb hbox hg;have hnb155:=NB575_522.out;have hnc155:=NB522_575.out;have hnb156:=NB575_532.out;have hnc156:=NB532_575.out;have hcz157_0 : w154.cell? ⟨gb575,0,none⟩ = some (.int .i64 0):=(blk_cell BK575.out 0).trans rfl;have hcz157_1 : w154.cell? ⟨gb575,1,none⟩ = some (.int .i64 0):=(blk_cell BK575.out 1).trans rfl;have hcz157_2 : w154.cell? ⟨gb575,2,none⟩ = some (.int .i64 0):=(blk_cell BK575.out 2).trans rfl;have hfz157_0:=blk_frozen BK575.out 0;have hfz157_1:=blk_frozen BK575.out 1;have hfz157_2:=blk_frozen BK575.out 2))
                                   have n0_ : Aside0 (Kd.R (Kd.int .i64) 3 (((w154.setCell ⟨gb575,0,none⟩ (.int .i64 ((rd_T47 t528 x15_3).f0))).setCell ⟨gb575,1,none⟩ (.int .i64 ((rd_T47 t528 x15_3).f1))).setCell ⟨gb575,2,none⟩ (.int .i64 ((rd_T47 t528 x15_3).f2))) w.heap.size (fun k_ => some k_ ≠ (.slice (some ad572) t546.length co122 : Value).ownBlock) (.slice Ao115 t543.length co115) t543):=⟨by (with_reducible repeat (first | apply Kd.R_alloc | apply Kd.R_drewN | apply Kd.R_drew));exact Kd.R_mono (Kd.R_far (p:=⟨gb575,2,none⟩) (Kd.R_far (p:=⟨gb575,1,none⟩) (Kd.R_far (p:=⟨gb575,0,none⟩) (Kd.R_types HO_9.out BK575.out (by decide)) (fun _ hk => hk.2) (.int .i64 ((rd_T47 t528 x15_3).f0))) (fun _ hk => hk.2) (.int .i64 ((rd_T47 t528 x15_3).f1))) (fun _ hk => hk.2) (.int .i64 ((rd_T47 t528 x15_3).f2))) (fun _ hk => hk.1)⟩
                                   have n1_ : Aside0 (Kd.R (Kd.int .i64) 3 (((w154.setCell ⟨gb575,0,none⟩ (.int .i64 ((rd_T47 t528 x15_3).f0))).setCell ⟨gb575,1,none⟩ (.int .i64 ((rd_T47 t528 x15_3).f1))).setCell ⟨gb575,2,none⟩ (.int .i64 ((rd_T47 t528 x15_3).f2))) w.heap.size (fun k_ => some k_ ≠ (.slice Ao115 t543.length co115 : Value).ownBlock) (.slice (some ad572) t546.length co122) t546):=⟨by (with_reducible repeat (first | apply Kd.R_alloc | apply Kd.R_drewN | apply Kd.R_drew));exact Kd.R_mono (Kd.R_far (p:=⟨gb575,2,none⟩) (Kd.R_far (p:=⟨gb575,1,none⟩) (Kd.R_far (p:=⟨gb575,0,none⟩) (Kd.R_types HO_10.out BK575.out (by decide)) (fun _ hk => hk.2) (.int .i64 ((rd_T47 t528 x15_3).f0))) (fun _ hk => hk.2) (.int .i64 ((rd_T47 t528 x15_3).f1))) (fun _ hk => hk.2) (.int .i64 ((rd_T47 t528 x15_3).f2))) (fun _ hk => hk.1)⟩
                                   have n2_ : Aside0 (Kd.R Kd.bool 4 (((w154.setCell ⟨gb575,0,none⟩ (.int .i64 ((rd_T47 t528 x15_3).f0))).setCell ⟨gb575,1,none⟩ (.int .i64 ((rd_T47 t528 x15_3).f1))).setCell ⟨gb575,2,none⟩ (.int .i64 ((rd_T47 t528 x15_3).f2))) w.heap.size (fun _ => True) (.slice (some ⟨go137,0,none⟩) x14_3.length co137) y573):=⟨by (with_reducible repeat (first | apply Kd.R_alloc | apply Kd.R_drewN | apply Kd.R_drew));exact Kd.R_mono (Kd.R_far (p:=⟨gb575,2,none⟩) (Kd.R_far (p:=⟨gb575,1,none⟩) (Kd.R_far (p:=⟨gb575,0,none⟩) (Kd.R_types HO_14.out BK575.out (by decide)) (fun _ hk => hk.2) (.int .i64 ((rd_T47 t528 x15_3).f0))) (fun _ hk => hk.2) (.int .i64 ((rd_T47 t528 x15_3).f1))) (fun _ hk => hk.2) (.int .i64 ((rd_T47 t528 x15_3).f2))) (fun _ hk => trivial)⟩
                                   have n3_ : Aside0 (Kd.R k46 46 (((w154.setCell ⟨gb575,0,none⟩ (.int .i64 ((rd_T47 t528 x15_3).f0))).setCell ⟨gb575,1,none⟩ (.int .i64 ((rd_T47 t528 x15_3).f1))).setCell ⟨gb575,2,none⟩ (.int .i64 ((rd_T47 t528 x15_3).f2))) w.heap.size (fun _ => True) (.slice Ao21 t525.length co21) t525):=⟨by (with_reducible repeat (first | apply Kd.R_alloc | apply Kd.R_drewN | apply Kd.R_drew));exact Kd.R_mono (Kd.R_far (p:=⟨gb575,2,none⟩) (Kd.R_far (p:=⟨gb575,1,none⟩) (Kd.R_far (p:=⟨gb575,0,none⟩) (Kd.R_types HO_533000.out BK575.out (by decide)) (fun _ hk => hk.2) (.int .i64 ((rd_T47 t528 x15_3).f0))) (fun _ hk => hk.2) (.int .i64 ((rd_T47 t528 x15_3).f1))) (fun _ hk => hk.2) (.int .i64 ((rd_T47 t528 x15_3).f2))) (fun _ hk => trivial)⟩
                                   have n4_ : Aside0 (Kd.R k47 47 (((w154.setCell ⟨gb575,0,none⟩ (.int .i64 ((rd_T47 t528 x15_3).f0))).setCell ⟨gb575,1,none⟩ (.int .i64 ((rd_T47 t528 x15_3).f1))).setCell ⟨gb575,2,none⟩ (.int .i64 ((rd_T47 t528 x15_3).f2))) w.heap.size (fun k_ => k_ ≠ gb575) (.slice (some ad574) t528.length co24) t528):=⟨by (with_reducible repeat (first | apply Kd.R_alloc | apply Kd.R_drewN | apply Kd.R_drew));exact Kd.R_mono (Kd.R_far (p:=⟨gb575,2,none⟩) (Kd.R_far (p:=⟨gb575,1,none⟩) (Kd.R_far (p:=⟨gb575,0,none⟩) (Kd.R_mono HO_533001.out (fun k_ hk => (⟨hk,hk.2⟩ : _ ∧ k_ ≠ gb575))) (fun _ hk => hk.2) (.int .i64 ((rd_T47 t528 x15_3).f0))) (fun _ hk => hk.2) (.int .i64 ((rd_T47 t528 x15_3).f1))) (fun _ hk => hk.2) (.int .i64 ((rd_T47 t528 x15_3).f2))) (fun _ hk => hk.1.2)⟩
                                   have n5_ : Aside0 ((((w154.setCell ⟨gb575,0,none⟩ (.int .i64 ((rd_T47 t528 x15_3).f0))).setCell ⟨gb575,1,none⟩ (.int .i64 ((rd_T47 t528 x15_3).f1))).setCell ⟨gb575,2,none⟩ (.int .i64 ((rd_T47 t528 x15_3).f2))).heap[gb522]? = some (.cells #[.slice A0_0 l0_0.length c0_0,.slice A0_1 l0_1.length c0_1] 25 (0,0))):=⟨by (with_reducible repeat (first | refine blk_drewN ?_ _ | refine blk_drew ?_ | refine blk_alloc ?_ _));refine blk_far ?_ NB522_575.out _;(with_reducible repeat (first | refine blk_drewN ?_ _ | refine blk_drew ?_ | refine blk_alloc ?_ _));refine blk_far ?_ NB522_575.out _;(with_reducible repeat (first | refine blk_drewN ?_ _ | refine blk_drew ?_ | refine blk_alloc ?_ _));refine blk_far ?_ NB522_575.out _;(with_reducible repeat (first | refine blk_drewN ?_ _ | refine blk_drew ?_ | refine blk_alloc ?_ _));exact BK522.out⟩
                                   have n6_ : Aside0 ((((w154.setCell ⟨gb575,0,none⟩ (.int .i64 ((rd_T47 t528 x15_3).f0))).setCell ⟨gb575,1,none⟩ (.int .i64 ((rd_T47 t528 x15_3).f1))).setCell ⟨gb575,2,none⟩ (.int .i64 ((rd_T47 t528 x15_3).f2))).heap[gb532]? = some (.cells #[.slice Ao21 t525.length co21,.slice (some ad574) t528.length co24] 25 (0,0))):=⟨by (with_reducible repeat (first | refine blk_drewN ?_ _ | refine blk_drew ?_ | refine blk_alloc ?_ _));refine blk_far ?_ NB532_575.out _;(with_reducible repeat (first | refine blk_drewN ?_ _ | refine blk_drew ?_ | refine blk_alloc ?_ _));refine blk_far ?_ NB532_575.out _;(with_reducible repeat (first | refine blk_drewN ?_ _ | refine blk_drew ?_ | refine blk_alloc ?_ _));refine blk_far ?_ NB532_575.out _;(with_reducible repeat (first | refine blk_drewN ?_ _ | refine blk_drew ?_ | refine blk_alloc ?_ _));exact BK532.out⟩
                                   have n7_ : Aside0 ((((w154.setCell ⟨gb575,0,none⟩ (.int .i64 ((rd_T47 t528 x15_3).f0))).setCell ⟨gb575,1,none⟩ (.int .i64 ((rd_T47 t528 x15_3).f1))).setCell ⟨gb575,2,none⟩ (.int .i64 ((rd_T47 t528 x15_3).f2))).heap[gb575]? = some (.cells #[.int .i64 ((rd_T47 t528 x15_3).f0),.int .i64 ((rd_T47 t528 x15_3).f1),.int .i64 ((rd_T47 t528 x15_3).f2)] 47 (0,0))):=⟨by (with_reducible repeat (first | refine blk_drewN ?_ _ | refine blk_drew ?_ | refine blk_alloc ?_ _));refine blk_put (cs:=#[.int .i64 ((rd_T47 t528 x15_3).f0),.int .i64 ((rd_T47 t528 x15_3).f1),.int .i64 0]) ?_ 2 _ rfl;(with_reducible repeat (first | refine blk_drewN ?_ _ | refine blk_drew ?_ | refine blk_alloc ?_ _));refine blk_put (cs:=#[.int .i64 ((rd_T47 t528 x15_3).f0),.int .i64 0,.int .i64 0]) ?_ 1 _ rfl;(with_reducible repeat (first | refine blk_drewN ?_ _ | refine blk_drew ?_ | refine blk_alloc ?_ _));refine blk_put (cs:=#[.int .i64 0,.int .i64 0,.int .i64 0]) ?_ 0 _ rfl;(with_reducible repeat (first | refine blk_drewN ?_ _ | refine blk_drew ?_ | refine blk_alloc ?_ _));exact BK575.out⟩
                                   have n8_ : Aside0 (Below w.heap.size w (((w154.setCell ⟨gb575,0,none⟩ (.int .i64 ((rd_T47 t528 x15_3).f0))).setCell ⟨gb575,1,none⟩ (.int .i64 ((rd_T47 t528 x15_3).f1))).setCell ⟨gb575,2,none⟩ (.int .i64 ((rd_T47 t528 x15_3).f2)))):=⟨by repeat (first | (with_reducible first | exact HB.out | apply below_alloc | apply pw_below_drewN | apply below_drew1 | refine below_set ?_ GE522.out | refine below_set ?_ GE532.out | refine below_set ?_ GE575.out) | exact HB.out)⟩
                                   (try clear HO_9)
                                   (try clear HO_10)
                                   (try clear HO_14)
                                   (try clear HO_533000)
                                   (try clear HO_533001)
                                   (try clear BK522)
                                   (try clear BK532)
                                   (try clear BK575)
                                   (try clear HB)
                                   generalize (((w154.setCell ⟨gb575,0,none⟩ (.int .i64 ((rd_T47 t528 x15_3).f0))).setCell ⟨gb575,1,none⟩ (.int .i64 ((rd_T47 t528 x15_3).f1))).setCell ⟨gb575,2,none⟩ (.int .i64 ((rd_T47 t528 x15_3).f2))) = w158 at n0_ n1_ n2_ n3_ n4_ n5_ n6_ n7_ n8_ ⊢
                                   have HO_9:=n0_
                                   have HO_10:=n1_
                                   have HO_14:=n2_
                                   have HO_533000:=n3_
                                   have HO_533001:=n4_
                                   have BK522:=n5_
                                   have BK532:=n6_
                                   have BK575:=n7_
                                   have HB:=n8_
                                   clear n0_ n1_ n2_ n3_ n4_ n5_ n6_ n7_ n8_
                                   have n0_:=aMx16 (Kd.R_drew HO_9.out)
                                   have n1_:=aMx16 (Kd.R_drew HO_10.out)
                                   have n2_:=aMx16 (Kd.R_drew HO_14.out)
                                   have n3_:=aMx16 (Kd.R_drew HO_533000.out)
                                   have n4_:=aMx16 (Kd.R_drew HO_533001.out)
                                   have n5_:=aMx16 (blk_drew BK522.out)
                                   have n6_:=aMx16 (blk_drew BK532.out)
                                   have n7_:=aMx16 (blk_drew BK575.out)
                                   have n8_:=aMx16 (below_drew1 HB.out)
                                   clear HO_9
                                   clear HO_10
                                   clear HO_14
                                   clear HO_533000
                                   clear HO_533001
                                   clear BK522
                                   clear BK532
                                   clear BK575
                                   clear HB
                                   have HO_9:=n0_
                                   have HO_10:=n1_
                                   have HO_14:=n2_
                                   have HO_533000:=n3_
                                   have HO_533001:=n4_
                                   have BK522:=n5_
                                   have BK532:=n6_
                                   have BK575:=n7_
                                   have HB:=n8_
                                   clear n0_ n1_ n2_ n3_ n4_ n5_ n6_ n7_ n8_
                                   have p576 : 0 ≤ (x15_3 : Int):=of_decide_eq_true (by first | (with_reducible assumption) | assumption)
                                   have q576 : x15_3 < (t546.length : Int):=of_decide_eq_true (by first | (with_reducible assumption) | assumption)
                                   obtain ⟨ad576,e576,hx576_0⟩:=Kd.at_int (Kd.R_reads' HO_10.out).2.2 x15_3 p576 q576
                                   obtain rfl : ad572 = ad576:=(by injection e576)
                                   replace p576:=eq_true p576
                                   replace q576:=eq_true q576
                                   have p577 : 0 ≤ ((rd t546 x15_3) : Int):=of_decide_eq_true (by first | (with_reducible assumption) | assumption)
                                   have q577 : (rd t546 x15_3) < (l0_1.length : Int):=of_decide_eq_true (by first | (with_reducible assumption) | assumption)
                                   obtain ⟨ad577,e577,hx577_0,hx577_1,hx577_2⟩:=at_T47 HR0_1.out (rd t546 x15_3) p577 q577
                                   have hw577_2:=hx577_2
                                   have hw577_1:=hx577_1
                                   have hw577_0:=hx577_0
                                   cases e577
                                   replace hx577_0:=(HB.out.cell (World.block_lt_of_cell? w _ hx577_0)).trans hx577_0
                                   replace hx577_1:=(HB.out.cell (World.block_lt_of_cell? w _ hx577_1)).trans hx577_1
                                   replace hx577_2:=(HB.out.cell (World.block_lt_of_cell? w _ hx577_2)).trans hx577_2
                                   replace p577:=eq_true p577
                                   replace q577:=eq_true q577
                                   have p581 : 0 ≤ (((rd_T47 t528 x15_3).f0) : Int):=of_decide_eq_true (by first | (with_reducible assumption) | assumption)
                                   have q581 : ((rd_T47 t528 x15_3).f0) < (t543.length : Int):=of_decide_eq_true (by first | (with_reducible assumption) | assumption)
                                   obtain ⟨ad581,e581,hx581_0⟩:=Kd.at_int (Kd.R_reads' HO_9.out).2.2 ((rd_T47 t528 x15_3).f0) p581 q581
                                   cases e581
                                   replace p581:=eq_true p581
                                   replace q581:=eq_true q581
                                   have p582 : 0 ≤ (((rd_T47 t528 x15_3).f1) : Int):=of_decide_eq_true (by first | (with_reducible assumption) | assumption)
                                   have q582 : ((rd_T47 t528 x15_3).f1) < (t543.length : Int):=of_decide_eq_true (by first | (with_reducible assumption) | assumption)
                                   obtain ⟨ad582,e582,hx582_0⟩:=Kd.at_int (Kd.R_reads' HO_9.out).2.2 ((rd_T47 t528 x15_3).f1) p582 q582
                                   obtain rfl : ad581 = ad582:=(by injection e582)
                                   replace p582:=eq_true p582
                                   replace q582:=eq_true q582
                                   have p584 : 0 ≤ (x15_3 : Int):=of_decide_eq_true (by first | (with_reducible assumption) | assumption)
                                   have q584 : x15_3 < (t546.length : Int):=of_decide_eq_true (by first | (with_reducible assumption) | assumption)
                                   obtain ⟨ad584,e584,hx584_0⟩:=Kd.at_int (Kd.R_reads' HO_10.out).2.2 x15_3 p584 q584
                                   obtain rfl : ad572 = ad584:=(by injection e584)
                                   replace p584:=eq_true p584
                                   replace q584:=eq_true q584
                                   have p585 : 0 ≤ ((rd t546 x15_3) : Int):=of_decide_eq_true (by first | (with_reducible assumption) | assumption)
                                   have q585 : (rd t546 x15_3) < (l0_1.length : Int):=of_decide_eq_true (by first | (with_reducible assumption) | assumption)
                                   obtain ⟨ad585,e585,hx585_0,hx585_1,hx585_2⟩:=at_T47 HR0_1.out (rd t546 x15_3) p585 q585
                                   have hw585_2:=hx585_2
                                   have hw585_1:=hx585_1
                                   have hw585_0:=hx585_0
                                   obtain rfl : ad577 = ad585:=(by injection e585)
                                   replace hx585_0:=(HB.out.cell (World.block_lt_of_cell? w _ hx585_0)).trans hx585_0
                                   replace hx585_1:=(HB.out.cell (World.block_lt_of_cell? w _ hx585_1)).trans hx585_1
                                   replace hx585_2:=(HB.out.cell (World.block_lt_of_cell? w _ hx585_2)).trans hx585_2
                                   replace p585:=eq_true p585
                                   replace q585:=eq_true q585
                                   have p589 : 0 ≤ (((rd_T47 t528 x15_3).f1) : Int):=of_decide_eq_true (by first | (with_reducible assumption) | assumption)
                                   have q589 : ((rd_T47 t528 x15_3).f1) < (t543.length : Int):=of_decide_eq_true (by first | (with_reducible assumption) | assumption)
                                   obtain ⟨ad589,e589,hx589_0⟩:=Kd.at_int (Kd.R_reads' HO_9.out).2.2 ((rd_T47 t528 x15_3).f1) p589 q589
                                   obtain rfl : ad581 = ad589:=(by injection e589)
                                   replace p589:=eq_true p589
                                   replace q589:=eq_true q589
                                   have p590 : 0 ≤ (((rd_T47 t528 x15_3).f2) : Int):=of_decide_eq_true (by first | (with_reducible assumption) | assumption)
                                   have q590 : ((rd_T47 t528 x15_3).f2) < (t543.length : Int):=of_decide_eq_true (by first | (with_reducible assumption) | assumption)
                                   obtain ⟨ad590,e590,hx590_0⟩:=Kd.at_int (Kd.R_reads' HO_9.out).2.2 ((rd_T47 t528 x15_3).f2) p590 q590
                                   obtain rfl : ad581 = ad590:=(by injection e590)
                                   replace p590:=eq_true p590
                                   replace q590:=eq_true q590
                                   as_aux_lemma =>
                                    refine start_ (n:=44) (S:=fun w' => w'.cell? ⟨gb522,0,none⟩ = some (.slice A0_0 l0_0.length c0_0) ∧ w'.cell? ⟨gb522,1,none⟩ = some (.slice (some ad577) l0_1.length c0_1) ∧ w'.cell? ⟨gb575,0,none⟩ = some (.int .i64 ((rd_T47 t528 x15_3).f0)) ∧ w'.cell? ⟨gb575,1,none⟩ = some (.int .i64 ((rd_T47 t528 x15_3).f1)) ∧ w'.cell? ⟨gb575,2,none⟩ = some (.int .i64 ((rd_T47 t528 x15_3).f2)) ∧ w'.cell? (ad572.add (x15_3).toNat) = some (.int .i64 (rd t546 x15_3)) ∧ w'.cell? (ad577.add (((rd t546 x15_3)).toNat * 3)) = some (.int .i64 ((rd_T47 l0_1 (rd t546 x15_3)).f0)) ∧ w'.cell? ⟨(ad577.add (((rd t546 x15_3)).toNat * 3)).block,(ad577.add (((rd t546 x15_3)).toNat * 3)).off+1,none⟩ = some (.int .i64 ((rd_T47 l0_1 (rd t546 x15_3)).f1)) ∧ w'.cell? ⟨(ad577.add (((rd t546 x15_3)).toNat * 3)).block,(ad577.add (((rd t546 x15_3)).toNat * 3)).off+2,none⟩ = some (.int .i64 ((rd_T47 l0_1 (rd t546 x15_3)).f2)) ∧ w'.cell? (ad581.add (((rd_T47 t528 x15_3).f0)).toNat) = some (.int .i64 (rd t543 ((rd_T47 t528 x15_3).f0))) ∧ w'.cell? (ad581.add (((rd_T47 t528 x15_3).f1)).toNat) = some (.int .i64 (rd t543 ((rd_T47 t528 x15_3).f1))) ∧ w'.cell? (ad572.add (x15_3).toNat) = some (.int .i64 (rd t546 x15_3)) ∧ w'.cell? (ad577.add (((rd t546 x15_3)).toNat * 3)) = some (.int .i64 ((rd_T47 l0_1 (rd t546 x15_3)).f0)) ∧ w'.cell? ⟨(ad577.add (((rd t546 x15_3)).toNat * 3)).block,(ad577.add (((rd t546 x15_3)).toNat * 3)).off+1,none⟩ = some (.int .i64 ((rd_T47 l0_1 (rd t546 x15_3)).f1)) ∧ w'.cell? ⟨(ad577.add (((rd t546 x15_3)).toNat * 3)).block,(ad577.add (((rd t546 x15_3)).toNat * 3)).off+2,none⟩ = some (.int .i64 ((rd_T47 l0_1 (rd t546 x15_3)).f2)) ∧ w'.cell? (ad581.add (((rd_T47 t528 x15_3).f1)).toNat) = some (.int .i64 (rd t543 ((rd_T47 t528 x15_3).f1))) ∧ w'.cell? (ad581.add (((rd_T47 t528 x15_3).f2)).toNat) = some (.int .i64 (rd t543 ((rd_T47 t528 x15_3).f2)))) (ds:=[]) (flx16 0 44) (by kernel_rfl) rfl rfl ⟨(blk_cell BK522.out 0).trans rfl,(blk_cell BK522.out 1).trans rfl,(blk_cell BK575.out 0).trans rfl,(blk_cell BK575.out 1).trans rfl,(blk_cell BK575.out 2).trans rfl,hx576_0,((HB.out.cell (World.block_lt_of_cell? w _ hw577_0)).trans hw577_0),((HB.out.cell (World.block_lt_of_cell? w _ hw577_1)).trans hw577_1),((HB.out.cell (World.block_lt_of_cell? w _ hw577_2)).trans hw577_2),hx581_0,hx582_0,hx584_0,((HB.out.cell (World.block_lt_of_cell? w _ hw585_0)).trans hw585_0),((HB.out.cell (World.block_lt_of_cell? w _ hw585_1)).trans hw585_1),((HB.out.cell (World.block_lt_of_cell? w _ hw585_2)).trans hw585_2),hx589_0,hx590_0⟩ (fun hHeld => ?_);refine with_tabW lapidarylaw11_WalkOnce.tab26 lapidarylaw11_WalkOnce.bits26 (fun HT_ HW_ => ?_)
                                    generalize w158.drew = w159 at HO_9 HO_10 HO_14 HO_533000 HO_533001 BK522 BK532 BK575 HB hx576_0 hx577_0 hx577_1 hx577_2 hx581_0 hx582_0 hx584_0 hx585_0 hx585_1 hx585_2 hx589_0 hx590_0 hHeld ⊢
                                    refine pure_ (i:=0) (N:=some 203) (v:=?_) (a':=?_) (flx16 1 43) rfl rfl (any_of HT_.out (by kernel_rfl)) (fun _ _ _ h => h) (Or.inl ⟨by rfl,?_⟩) ?_ ?_
                                    rotate_left
                                    ·intro w'
                                     go_simp
                                     with_reducible rfl
                                    rotate_left
                                    ·simp only [Act.put,sAx16,sBx16,sCx16,i64_w,i32_w]
                                     rfl
                                    refine pure_ (i:=2) (N:=some 205) (v:=?_) (a':=?_) #[true,false,true,false,false,false,false,false,false,false,false,false,false,false,false,false,false,false,false,false,false,false,false,false,false,false,false,false,false,false,false,false,false,false,false,false,false,false,false,false,false,false,false,false] rfl rfl (any_of HT_.out (by kernel_rfl)) (fun _ _ _ h => h) (Or.inl ⟨by rfl,?_⟩) ?_ ?_
                                    rotate_left
                                    ·intro w'
                                     go_simp
                                     with_reducible rfl
                                    rotate_left
                                    ·simp only [Act.put,sAx16,sBx16,sCx16,i64_w,i32_w]
                                     rfl
                                    refine pure_ (i:=3) (N:=some 206) (v:=?_) (a':=?_) #[true,false,true,true,false,false,false,false,false,false,false,false,false,false,false,false,false,false,false,false,false,false,false,false,false,false,false,false,false,false,false,false,false,false,false,false,false,false,false,false,false,false,false,false] rfl rfl (any_of HT_.out (by kernel_rfl)) (fun _ _ _ h => h) (Or.inl ⟨by rfl,?_⟩) ?_ ?_
                                    rotate_left
                                    ·intro w'
                                     go_simp
                                     with_reducible rfl
                                    rotate_left
                                    ·simp only [Act.put,sAx16,sBx16,sCx16,i64_w,i32_w]
                                     rfl
                                    refine pure_ (i:=4) (N:=some 207) (v:=?_) (a':=?_) #[true,false,true,true,true,false,false,false,false,false,false,false,false,false,false,false,false,false,false,false,false,false,false,false,false,false,false,false,false,false,false,false,false,false,false,false,false,false,false,false,false,false,false,false] rfl rfl (any_of HT_.out (by kernel_rfl)) (fun _ _ _ h => h) (Or.inl ⟨by rfl,?_⟩) ?_ ?_
                                    rotate_left
                                    ·intro w'
                                     go_simp
                                     with_reducible rfl
                                    rotate_left
                                    ·simp only [Act.put,sAx16,sBx16,sCx16,i64_w,i32_w]
                                     rfl
                                    refine pure_ (i:=9) (N:=some 212) (v:=?_) (a':=?_) #[true,false,true,true,true,false,false,false,false,true,false,false,false,false,false,false,false,false,false,false,false,false,false,false,false,false,false,false,false,false,false,false,false,false,false,false,false,false,false,false,false,false,false,false] rfl rfl (any_of HT_.out (by kernel_rfl)) (fun _ _ _ h => h) (Or.inl ⟨by rfl,?_⟩) ?_ ?_
                                    rotate_left
                                    ·intro w'
                                     go_simp
                                     with_reducible rfl
                                    rotate_left
                                    ·simp only [Act.put,sAx16,sBx16,sCx16,i64_w,i32_w]
                                     rfl
                                    refine pure_ (i:=10) (N:=some 213) (v:=?_) (a':=?_) #[true,false,true,true,true,false,false,false,false,true,true,false,false,false,false,false,false,false,false,false,false,false,false,false,false,false,false,false,false,false,false,false,false,false,false,false,false,false,false,false,false,false,false,false] rfl rfl (any_of HT_.out (by kernel_rfl)) (fun _ _ _ h => h) (Or.inl ⟨by rfl,?_⟩) ?_ ?_
                                    rotate_left
                                    ·intro w'
                                     go_simp
                                     with_reducible rfl
                                    rotate_left
                                    ·simp only [Act.put,sAx16,sBx16,sCx16,i64_w,i32_w]
                                     rfl
                                    refine pure_ (i:=14) (N:=some 217) (v:=?_) (a':=?_) #[true,false,true,true,true,false,false,false,false,true,true,false,false,false,true,false,false,false,false,false,false,false,false,false,false,false,false,false,false,false,false,false,false,false,false,false,false,false,false,false,false,false,false,false] rfl rfl (any_of HT_.out (by kernel_rfl)) (fun _ _ _ h => h) (Or.inl ⟨by rfl,?_⟩) ?_ ?_
                                    rotate_left
                                    ·intro w'
                                     go_simp
                                     with_reducible rfl
                                    rotate_left
                                    ·simp only [Act.put,sAx16,sBx16,sCx16,i64_w,i32_w]
                                     rfl
                                    refine pure_ (i:=15) (N:=some 218) (v:=?_) (a':=?_) #[true,false,true,true,true,false,false,false,false,true,true,false,false,false,true,true,false,false,false,false,false,false,false,false,false,false,false,false,false,false,false,false,false,false,false,false,false,false,false,false,false,false,false,false] rfl rfl (any_of HT_.out (by kernel_rfl)) (fun _ _ _ h => h) (Or.inl ⟨by rfl,?_⟩) ?_ ?_
                                    rotate_left
                                    ·intro w'
                                     go_simp
                                     with_reducible rfl
                                    rotate_left
                                    ·simp only [Act.put,sAx16,sBx16,sCx16,i64_w,i32_w]
                                     rfl
                                    refine take_ (i:=1) (N:=some 204) (v:=?_) (a':=?_) #[true,true,true,true,true,false,false,false,false,true,true,false,false,false,true,true,false,false,false,false,false,false,false,false,false,false,false,false,false,false,false,false,false,false,false,false,false,false,false,false,false,false,false,false] rfl rfl (take_ofW HT_.out HW_.out (by kernel_rfl)) (fun _ _ _ h => h) (Or.inl ⟨by rfl,?_⟩) hHeld ?_ ?_
                                    rotate_left
                                    ·rintro w' ⟨s0,s1,s2,s3,s4,s5,s6,s7,s8,s9,s10,s11,s12,s13,s14,s15,s16⟩
                                     go_simp
                                     with_reducible rfl
                                    rotate_left
                                    ·simp only [Act.put,sAx16,sBx16,sCx16,i64_w,i32_w]
                                     rfl
                                    refine take_ (i:=5) (N:=some 208) (v:=?_) (a':=?_) #[true,true,true,true,true,true,false,false,false,true,true,false,false,false,true,true,false,false,false,false,false,false,false,false,false,false,false,false,false,false,false,false,false,false,false,false,false,false,false,false,false,false,false,false] rfl rfl (take_ofW HT_.out HW_.out (by kernel_rfl)) (fun _ _ _ h => h) (Or.inl ⟨by rfl,?_⟩) hHeld ?_ ?_
                                    rotate_left
                                    ·rintro w' ⟨s0,s1,s2,s3,s4,s5,s6,s7,s8,s9,s10,s11,s12,s13,s14,s15,s16⟩
                                     go_simp
                                     with_reducible rfl
                                    rotate_left
                                    ·simp only [Act.put,sAx16,sBx16,sCx16,i64_w,i32_w]
                                     rfl
                                    refine pure_ (i:=6) (N:=some 209) (v:=?_) (a':=?_) #[true,true,true,true,true,true,true,false,false,true,true,false,false,false,true,true,false,false,false,false,false,false,false,false,false,false,false,false,false,false,false,false,false,false,false,false,false,false,false,false,false,false,false,false] rfl rfl (any_of HT_.out (by kernel_rfl)) (fun _ _ _ h => h) (Or.inl ⟨by rfl,?_⟩) ?_ ?_
                                    rotate_left
                                    ·intro w'
                                     go_simp
                                     with_reducible rfl
                                    rotate_left
                                    ·simp only [Act.put,sAx16,sBx16,sCx16,i64_w,i32_w]
                                     rfl
                                    refine take_ (i:=7) (N:=some 210) (v:=?_) (a':=?_) #[true,true,true,true,true,true,true,true,false,true,true,false,false,false,true,true,false,false,false,false,false,false,false,false,false,false,false,false,false,false,false,false,false,false,false,false,false,false,false,false,false,false,false,false] rfl rfl (take_ofW HT_.out HW_.out (by kernel_rfl)) (fun _ _ _ h => h) (Or.inl ⟨by rfl,?_⟩) hHeld ?_ ?_
                                    rotate_left
                                    ·rintro w' ⟨s0,s1,s2,s3,s4,s5,s6,s7,s8,s9,s10,s11,s12,s13,s14,s15,s16⟩
                                     go_simp
                                     with_reducible rfl
                                    rotate_left
                                    ·simp only [Act.put,sAx16,sBx16,sCx16,i64_w,i32_w]
                                     rfl
                                    refine take_ (i:=11) (N:=some 214) (v:=?_) (a':=?_) #[true,true,true,true,true,true,true,true,false,true,true,true,false,false,true,true,false,false,false,false,false,false,false,false,false,false,false,false,false,false,false,false,false,false,false,false,false,false,false,false,false,false,false,false] rfl rfl (take_ofW HT_.out HW_.out (by kernel_rfl)) (fun _ _ _ h => h) (Or.inl ⟨by rfl,?_⟩) hHeld ?_ ?_
                                    rotate_left
                                    ·rintro w' ⟨s0,s1,s2,s3,s4,s5,s6,s7,s8,s9,s10,s11,s12,s13,s14,s15,s16⟩
                                     go_simp
                                     with_reducible rfl
                                    rotate_left
                                    ·simp only [Act.put,sAx16,sBx16,sCx16,i64_w,i32_w]
                                     rfl
                                    refine pure_ (i:=12) (N:=some 215) (v:=?_) (a':=?_) #[true,true,true,true,true,true,true,true,false,true,true,true,true,false,true,true,false,false,false,false,false,false,false,false,false,false,false,false,false,false,false,false,false,false,false,false,false,false,false,false,false,false,false,false] rfl rfl (any_of HT_.out (by kernel_rfl)) (fun _ _ _ h => h) (Or.inl ⟨by rfl,?_⟩) ?_ ?_
                                    rotate_left
                                    ·intro w'
                                     go_simp
                                     with_reducible rfl
                                    rotate_left
                                    ·simp only [Act.put,sAx16,sBx16,sCx16,i64_w,i32_w]
                                     rfl
                                    refine take_ (i:=13) (N:=some 216) (v:=?_) (a':=?_) #[true,true,true,true,true,true,true,true,false,true,true,true,true,true,true,true,false,false,false,false,false,false,false,false,false,false,false,false,false,false,false,false,false,false,false,false,false,false,false,false,false,false,false,false] rfl rfl (take_ofW HT_.out HW_.out (by kernel_rfl)) (fun _ _ _ h => h) (Or.inl ⟨by rfl,?_⟩) hHeld ?_ ?_
                                    rotate_left
                                    ·rintro w' ⟨s0,s1,s2,s3,s4,s5,s6,s7,s8,s9,s10,s11,s12,s13,s14,s15,s16⟩
                                     go_simp
                                     with_reducible rfl
                                    rotate_left
                                    ·simp only [Act.put,sAx16,sBx16,sCx16,i64_w,i32_w]
                                     rfl
                                    refine take_ (i:=16) (N:=some 219) (v:=?_) (a':=?_) #[true,true,true,true,true,true,true,true,false,true,true,true,true,true,true,true,true,false,false,false,false,false,false,false,false,false,false,false,false,false,false,false,false,false,false,false,false,false,false,false,false,false,false,false] rfl rfl (take_ofW HT_.out HW_.out (by kernel_rfl)) (fun _ _ _ h => h) (Or.inl ⟨by rfl,?_⟩) hHeld ?_ ?_
                                    rotate_left
                                    ·rintro w' ⟨s0,s1,s2,s3,s4,s5,s6,s7,s8,s9,s10,s11,s12,s13,s14,s15,s16⟩
                                     go_simp
                                     with_reducible rfl
                                    rotate_left
                                    ·simp only [Act.put,sAx16,sBx16,sCx16,i64_w,i32_w]
                                     rfl
                                    refine pure_ (i:=17) (N:=some 220) (v:=?_) (a':=?_) #[true,true,true,true,true,true,true,true,false,true,true,true,true,true,true,true,true,true,false,false,false,false,false,false,false,false,false,false,false,false,false,false,false,false,false,false,false,false,false,false,false,false,false,false] rfl rfl (any_of HT_.out (by kernel_rfl)) (fun _ _ _ h => h) (Or.inl ⟨by rfl,?_⟩) ?_ ?_
                                    rotate_left
                                    ·intro w'
                                     go_simp
                                     with_reducible rfl
                                    rotate_left
                                    ·simp only [Act.put,sAx16,sBx16,sCx16,i64_w,i32_w]
                                     rfl
                                    refine take_ (i:=18) (N:=some 221) (v:=?_) (a':=?_) #[true,true,true,true,true,true,true,true,false,true,true,true,true,true,true,true,true,true,true,false,false,false,false,false,false,false,false,false,false,false,false,false,false,false,false,false,false,false,false,false,false,false,false,false] rfl rfl (take_ofW HT_.out HW_.out (by kernel_rfl)) (fun _ _ _ h => h) (Or.inl ⟨by rfl,?_⟩) hHeld ?_ ?_
                                    rotate_left
                                    ·rintro w' ⟨s0,s1,s2,s3,s4,s5,s6,s7,s8,s9,s10,s11,s12,s13,s14,s15,s16⟩
                                     go_simp
                                     with_reducible rfl
                                    rotate_left
                                    ·simp only [Act.put,sAx16,sBx16,sCx16,i64_w,i32_w]
                                     rfl
                                    refine one_ (i:=8) (N:=some 211) (flx16 19 25) rfl rfl (one_of HT_.out (by kernel_rfl)) (by decide) (fun K hK => ?_)
                                    refine Kd.R_lit_step k47 _ 47 ?hg (N:=211) ?hd (xs:=([(⟨(rd_T47 l0_1 (rd t546 x15_3)).f0,(rd_T47 l0_1 (rd t546 x15_3)).f1,(rd_T47 l0_1 (rd t546 x15_3)).f2⟩ : S47)] : List (S47))) (inner:=[.int .i64 ((rd_T47 l0_1 (rd t546 x15_3)).f0),.int .i64 ((rd_T47 l0_1 (rd t546 x15_3)).f1),.int .i64 ((rd_T47 l0_1 (rd t546 x15_3)).f2)]) (ok:=fun _ => True) (okp:=fun _ => True) ?hr ?hp (fun _ hk => hk) trivial (Below.refl _ _) (Nat.le_refl _) (by simp) ?_;(case hd => rfl);(case hg => rfl);(case hr => first | (go_simp;done) | (go_simp;rfl));(case hp => exact (Reps.c3 (show Kd.M k47 _ _ _ (⟨(rd_T47 l0_1 (rd t546 x15_3)).f0,(rd_T47 l0_1 (rd t546 x15_3)).f1,(rd_T47 l0_1 (rd t546 x15_3)).f2⟩ : S47) [.int .i64 ((rd_T47 l0_1 (rd t546 x15_3)).f0),.int .i64 ((rd_T47 l0_1 (rd t546 x15_3)).f1),.int .i64 ((rd_T47 l0_1 (rd t546 x15_3)).f2)] from (k47_mkM _ _ _ (⟨(rd_T47 l0_1 (rd t546 x15_3)).f0,(rd_T47 l0_1 (rd t546 x15_3)).f1,(rd_T47 l0_1 (rd t546 x15_3)).f2⟩ : S47) )) (Reps.none _ _)))
                                    intro v579 w160 ho161 hb hg_ hnew_
                                    have HS5_:=(hb.cell (World.block_lt_of_cell? _ _ (hHeld.2.2.2.2.2.1))).trans (hHeld.2.2.2.2.2.1)
                                    have HS9_:=(hb.cell (World.block_lt_of_cell? _ _ (hHeld.2.2.2.2.2.2.2.2.2.1))).trans (hHeld.2.2.2.2.2.2.2.2.2.1)
                                    have HS10_:=(hb.cell (World.block_lt_of_cell? _ _ (hHeld.2.2.2.2.2.2.2.2.2.2.1))).trans (hHeld.2.2.2.2.2.2.2.2.2.2.1)
                                    have HS11_:=(hb.cell (World.block_lt_of_cell? _ _ (hHeld.2.2.2.2.2.2.2.2.2.2.2.1))).trans (hHeld.2.2.2.2.2.2.2.2.2.2.2.1)
                                    have HS15_:=(hb.cell (World.block_lt_of_cell? _ _ (hHeld.2.2.2.2.2.2.2.2.2.2.2.2.2.2.2.1))).trans (hHeld.2.2.2.2.2.2.2.2.2.2.2.2.2.2.2.1)
                                    have HS16_:=(hb.cell (World.block_lt_of_cell? _ _ (hHeld.2.2.2.2.2.2.2.2.2.2.2.2.2.2.2.2))).trans (hHeld.2.2.2.2.2.2.2.2.2.2.2.2.2.2.2.2)
                                    clear hg_ hnew_
                                    (first | rw [← Ny578.out] at ho161 | (simp only [Int.reduceToNat] at ho161;rw [← Ny578.out] at ho161))
                                    have n0_:=aMx16 (Kd.R_below (by (with_reducible repeat (first | apply Kd.R_alloc | apply Kd.R_drewN | apply Kd.R_drew));exact HO_9.out) hb)
                                    have n1_:=aMx16 (Kd.R_below (by (with_reducible repeat (first | apply Kd.R_alloc | apply Kd.R_drewN | apply Kd.R_drew));exact HO_10.out) hb)
                                    have n2_:=aMx16 (Kd.R_below (by (with_reducible repeat (first | apply Kd.R_alloc | apply Kd.R_drewN | apply Kd.R_drew));exact HO_14.out) hb)
                                    have n3_:=aMx16 (Kd.R_below (by (with_reducible repeat (first | apply Kd.R_alloc | apply Kd.R_drewN | apply Kd.R_drew));exact HO_533000.out) hb)
                                    have n4_:=aMx16 (Kd.R_elder' (by (with_reducible repeat (first | apply Kd.R_alloc | apply Kd.R_drewN | apply Kd.R_drew));exact HO_533001.out) (Kd.R_base ho161) hb)
                                    have n5_:=aMx16 (Kd.R_lower (Kd.R_newB (Kd.R_new' ho161 (Kd.R_lt (by (with_reducible repeat (first | apply Kd.R_alloc | apply Kd.R_drewN | apply Kd.R_drew));exact HO_533001.out))) (g:=gb575) (o:=.cells #[.int .i64 ((rd_T47 t528 x15_3).f0),.int .i64 ((rd_T47 t528 x15_3).f1),.int .i64 ((rd_T47 t528 x15_3).f2)] 47 (0,0)) (by (with_reducible repeat (first | refine blk_drewN ?_ _ | refine blk_drew ?_ | refine blk_alloc ?_ _));exact BK575.out)) (below_size (by repeat (first | (with_reducible first | exact HB.out | apply below_alloc | apply pw_below_drewN | apply below_drew1 | refine below_set ?_ GE522.out | refine below_set ?_ GE532.out | refine below_set ?_ GE575.out) | exact HB.out))))
                                    have n6_:=aMx16 (blk_below (g:=gb522) (o:=.cells #[.slice A0_0 l0_0.length c0_0,.slice (some ad577) l0_1.length c0_1] 25 (0,0)) (by (with_reducible repeat (first | refine blk_drewN ?_ _ | refine blk_drew ?_ | refine blk_alloc ?_ _));exact BK522.out) hb)
                                    have n7_:=aMx16 (blk_below (g:=gb532) (o:=.cells #[.slice Ao21 t525.length co21,.slice (some ad574) t528.length co24] 25 (0,0)) (by (with_reducible repeat (first | refine blk_drewN ?_ _ | refine blk_drew ?_ | refine blk_alloc ?_ _));exact BK532.out) hb)
                                    have n8_:=aMx16 (blk_below (g:=gb575) (o:=.cells #[.int .i64 ((rd_T47 t528 x15_3).f0),.int .i64 ((rd_T47 t528 x15_3).f1),.int .i64 ((rd_T47 t528 x15_3).f2)] 47 (0,0)) (by (with_reducible repeat (first | refine blk_drewN ?_ _ | refine blk_drew ?_ | refine blk_alloc ?_ _));exact BK575.out) hb)
                                    have n9_:=aMx16 (below_step (by repeat (first | (with_reducible first | exact HB.out | apply below_alloc | apply pw_below_drewN | apply below_drew1 | refine below_set ?_ GE522.out | refine below_set ?_ GE532.out | refine below_set ?_ GE575.out) | exact HB.out)) hb)
                                    clear HO_9
                                    clear HO_10
                                    clear HO_14
                                    clear HO_533000
                                    clear HO_533001
                                    clear BK522
                                    clear BK532
                                    clear BK575
                                    clear HB
                                    have HO_9:=n0_
                                    have HO_10:=n1_
                                    have HO_14:=n2_
                                    have HO_533000:=n3_
                                    have HO_533001:=n4_
                                    have HO580:=n5_
                                    have BK522:=n6_
                                    have BK532:=n7_
                                    have BK575:=n8_
                                    have HB:=n9_
                                    clear n0_ n1_ n2_ n3_ n4_ n5_ n6_ n7_ n8_ n9_
                                    clear hb ho161
                                    obtain ⟨Ao162,co162,eo162⟩:=Kd.R_slice HO580.out
                                    (first | subst eo162 | (injection eo162 with f1_ f2_ f3_;have f4_:=f1_.symm;have f5_:=f3_.symm;clear f1_ f2_ f3_;subst f4_;subst f5_))
                                    refine hK.out _ _ ⟨(blk_cell BK522.out 0).trans rfl,(blk_cell BK522.out 1).trans rfl,(blk_cell BK575.out 0).trans rfl,(blk_cell BK575.out 1).trans rfl,(blk_cell BK575.out 2).trans rfl,HS5_,((HB.out.cell (World.block_lt_of_cell? w _ hw577_0)).trans hw577_0),((HB.out.cell (World.block_lt_of_cell? w _ hw577_1)).trans hw577_1),((HB.out.cell (World.block_lt_of_cell? w _ hw577_2)).trans hw577_2),HS9_,HS10_,HS11_,((HB.out.cell (World.block_lt_of_cell? w _ hw585_0)).trans hw585_0),((HB.out.cell (World.block_lt_of_cell? w _ hw585_1)).trans hw585_1),((HB.out.cell (World.block_lt_of_cell? w _ hw585_2)).trans hw585_2),HS15_,HS16_⟩ (fun hHeld => ?_)
                                    clear hK K
                                    refine norm_ (a':=?_) ?_ ?_
                                    rotate_left
                                    ·show Act.put _ (some 211) _ = _
                                     simp only [Act.put,sAx16,sBx16,sCx16,i64_w,i32_w]
                                     rfl
                                    refine one_ (i:=19) (N:=some 222) (flx16 20 24) rfl rfl (one_of HT_.out (by kernel_rfl)) (by decide) (fun K hK => ?_)
                                    refine goes_ Tryd.func31 (by kernel_rfl) rfl #[.slice Ao162 y578.length co162,.int .i64 (rd t543 ((rd_T47 t528 x15_3).f0)),.int .i64 (rd t543 ((rd_T47 t528 x15_3).f1))] (by rfl) rfl rfl (by (try simp only [List.map_toArray,List.map_cons,List.map_nil]);first | done | rfl | (simp only [List.length_drop,List.length_take];rfl)) ?_
                                    with_reducible refine (lapidaryref10_Has.calls kj120 _ _ y578 (rd t543 ((rd_T47 t528 x15_3).f0)) (rd t543 ((rd_T47 t528 x15_3).f1)) t583 _ ?side1 ?side2 A144.out).mono ?_
                                    (case side1 => repeat (first|exact (Kd.R_reads' HO580.out).2.2|(with_reducible first|refine Kd.C_alloc ?_ _|refine Kd.C_drewN ?_ _|refine Kd.C_drew ?_)))
                                    (case side2 => exact (Kd.R_reads' HO580.out).2.1)
                                    rintro e w' ⟨rfl,⟨nd,rfl⟩⟩
                                    refine ⟨_,rfl,?_⟩
                                    refine hK.out _ _ ⟨(blk_cell BK522.out 0).trans rfl,(blk_cell BK522.out 1).trans rfl,(blk_cell BK575.out 0).trans rfl,(blk_cell BK575.out 1).trans rfl,(blk_cell BK575.out 2).trans rfl,hHeld.2.2.2.2.2.1,((HB.out.cell (World.block_lt_of_cell? w _ hw577_0)).trans hw577_0),((HB.out.cell (World.block_lt_of_cell? w _ hw577_1)).trans hw577_1),((HB.out.cell (World.block_lt_of_cell? w _ hw577_2)).trans hw577_2),hHeld.2.2.2.2.2.2.2.2.2.1,hHeld.2.2.2.2.2.2.2.2.2.2.1,hHeld.2.2.2.2.2.2.2.2.2.2.2.1,((HB.out.cell (World.block_lt_of_cell? w _ hw585_0)).trans hw585_0),((HB.out.cell (World.block_lt_of_cell? w _ hw585_1)).trans hw585_1),((HB.out.cell (World.block_lt_of_cell? w _ hw585_2)).trans hw585_2),hHeld.2.2.2.2.2.2.2.2.2.2.2.2.2.2.2.1,hHeld.2.2.2.2.2.2.2.2.2.2.2.2.2.2.2.2⟩ (fun hHeld => ?_)
                                    clear hK K
                                    refine norm_ (a':=?_) ?_ ?_
                                    rotate_left
                                    ·show Act.put _ (some 222) _ = _
                                     simp only [Act.put,sAx16,sBx16,sCx16,i64_w,i32_w]
                                     rfl
                                    refine pure_ (i:=20) (N:=some 223) (v:=?_) (a':=?_) (flx16 21 23) rfl rfl (any_of HT_.out (by kernel_rfl)) (fun _ _ _ h => h) (Or.inl ⟨by rfl,?_⟩) ?_ ?_
                                    rotate_left
                                    ·intro w'
                                     go_simp
                                     with_reducible rfl
                                    rotate_left
                                    ·simp only [Act.put,sAx16,sBx16,sCx16,i64_w,i32_w]
                                     rfl
                                    refine pure_ (i:=21) (N:=some 224) (v:=?_) (a':=?_) (flx16 22 22) rfl rfl (any_of HT_.out (by kernel_rfl)) (fun _ _ _ h => h) (Or.inl ⟨by rfl,?_⟩) ?_ ?_
                                    rotate_left
                                    ·intro w'
                                     go_simp
                                     with_reducible rfl
                                    rotate_left
                                    ·simp only [Act.put,sAx16,sBx16,sCx16,i64_w,i32_w]
                                     rfl
                                    refine pure_ (i:=22) (N:=some 225) (v:=?_) (a':=?_) (flx16 23 21) rfl rfl (any_of HT_.out (by kernel_rfl)) (fun _ _ _ h => h) (Or.inl ⟨by rfl,?_⟩) ?_ ?_
                                    rotate_left
                                    ·intro w'
                                     go_simp
                                     with_reducible rfl
                                    rotate_left
                                    ·simp only [Act.put,sAx16,sBx16,sCx16,i64_w,i32_w]
                                     rfl
                                    refine pure_ (i:=24) (N:=some 227) (v:=?_) (a':=?_) #[true,true,true,true,true,true,true,true,true,true,true,true,true,true,true,true,true,true,true,true,true,true,true,false,true,false,false,false,false,false,false,false,false,false,false,false,false,false,false,false,false,false,false,false] rfl rfl (any_of HT_.out (by kernel_rfl)) (fun _ _ _ h => h) (Or.inl ⟨by rfl,?_⟩) ?_ ?_
                                    rotate_left
                                    ·intro w'
                                     go_simp
                                     with_reducible rfl
                                    rotate_left
                                    ·simp only [Act.put,sAx16,sBx16,sCx16,i64_w,i32_w]
                                     rfl
                                    refine pure_ (i:=25) (N:=some 228) (v:=?_) (a':=?_) #[true,true,true,true,true,true,true,true,true,true,true,true,true,true,true,true,true,true,true,true,true,true,true,false,true,true,false,false,false,false,false,false,false,false,false,false,false,false,false,false,false,false,false,false] rfl rfl (any_of HT_.out (by kernel_rfl)) (fun _ _ _ h => h) (Or.inl ⟨by rfl,?_⟩) ?_ ?_
                                    rotate_left
                                    ·intro w'
                                     go_simp
                                     with_reducible rfl
                                    rotate_left
                                    ·simp only [Act.put,sAx16,sBx16,sCx16,i64_w,i32_w]
                                     rfl
                                    refine pure_ (i:=26) (N:=some 229) (v:=?_) (a':=?_) #[true,true,true,true,true,true,true,true,true,true,true,true,true,true,true,true,true,true,true,true,true,true,true,false,true,true,true,false,false,false,false,false,false,false,false,false,false,false,false,false,false,false,false,false] rfl rfl (any_of HT_.out (by kernel_rfl)) (fun _ _ _ h => h) (Or.inl ⟨by rfl,?_⟩) ?_ ?_
                                    rotate_left
                                    ·intro w'
                                     go_simp
                                     with_reducible rfl
                                    rotate_left
                                    ·simp only [Act.put,sAx16,sBx16,sCx16,i64_w,i32_w]
                                     rfl
                                    refine pure_ (i:=31) (N:=some 234) (v:=?_) (a':=?_) #[true,true,true,true,true,true,true,true,true,true,true,true,true,true,true,true,true,true,true,true,true,true,true,false,true,true,true,false,false,false,false,true,false,false,false,false,false,false,false,false,false,false,false,false] rfl rfl (any_of HT_.out (by kernel_rfl)) (fun _ _ _ h => h) (Or.inl ⟨by rfl,?_⟩) ?_ ?_
                                    rotate_left
                                    ·intro w'
                                     go_simp
                                     with_reducible rfl
                                    rotate_left
                                    ·simp only [Act.put,sAx16,sBx16,sCx16,i64_w,i32_w]
                                     rfl
                                    refine pure_ (i:=32) (N:=some 235) (v:=?_) (a':=?_) #[true,true,true,true,true,true,true,true,true,true,true,true,true,true,true,true,true,true,true,true,true,true,true,false,true,true,true,false,false,false,false,true,true,false,false,false,false,false,false,false,false,false,false,false] rfl rfl (any_of HT_.out (by kernel_rfl)) (fun _ _ _ h => h) (Or.inl ⟨by rfl,?_⟩) ?_ ?_
                                    rotate_left
                                    ·intro w'
                                     go_simp
                                     with_reducible rfl
                                    rotate_left
                                    ·simp only [Act.put,sAx16,sBx16,sCx16,i64_w,i32_w]
                                     rfl
                                    refine pure_ (i:=36) (N:=some 239) (v:=?_) (a':=?_) #[true,true,true,true,true,true,true,true,true,true,true,true,true,true,true,true,true,true,true,true,true,true,true,false,true,true,true,false,false,false,false,true,true,false,false,false,true,false,false,false,false,false,false,false] rfl rfl (any_of HT_.out (by kernel_rfl)) (fun _ _ _ h => h) (Or.inl ⟨by rfl,?_⟩) ?_ ?_
                                    rotate_left
                                    ·intro w'
                                     go_simp
                                     with_reducible rfl
                                    rotate_left
                                    ·simp only [Act.put,sAx16,sBx16,sCx16,i64_w,i32_w]
                                     rfl
                                    refine pure_ (i:=37) (N:=some 240) (v:=?_) (a':=?_) #[true,true,true,true,true,true,true,true,true,true,true,true,true,true,true,true,true,true,true,true,true,true,true,false,true,true,true,false,false,false,false,true,true,false,false,false,true,true,false,false,false,false,false,false] rfl rfl (any_of HT_.out (by kernel_rfl)) (fun _ _ _ h => h) (Or.inl ⟨by rfl,?_⟩) ?_ ?_
                                    rotate_left
                                    ·intro w'
                                     go_simp
                                     with_reducible rfl
                                    rotate_left
                                    ·simp only [Act.put,sAx16,sBx16,sCx16,i64_w,i32_w]
                                     rfl
                                    refine take_ (i:=23) (N:=some 226) (v:=?_) (a':=?_) #[true,true,true,true,true,true,true,true,true,true,true,true,true,true,true,true,true,true,true,true,true,true,true,true,true,true,true,false,false,false,false,true,true,false,false,false,true,true,false,false,false,false,false,false] rfl rfl (take_ofW HT_.out HW_.out (by kernel_rfl)) (fun _ _ _ h => h) (Or.inl ⟨by rfl,?_⟩) hHeld ?_ ?_
                                    rotate_left
                                    ·rintro w' ⟨s0,s1,s2,s3,s4,s5,s6,s7,s8,s9,s10,s11,s12,s13,s14,s15,s16⟩
                                     go_simp
                                     with_reducible rfl
                                    rotate_left
                                    ·simp only [Act.put,sAx16,sBx16,sCx16,i64_w,i32_w]
                                     rfl
                                    refine take_ (i:=27) (N:=some 230) (v:=?_) (a':=?_) #[true,true,true,true,true,true,true,true,true,true,true,true,true,true,true,true,true,true,true,true,true,true,true,true,true,true,true,true,false,false,false,true,true,false,false,false,true,true,false,false,false,false,false,false] rfl rfl (take_ofW HT_.out HW_.out (by kernel_rfl)) (fun _ _ _ h => h) (Or.inl ⟨by rfl,?_⟩) hHeld ?_ ?_
                                    rotate_left
                                    ·rintro w' ⟨s0,s1,s2,s3,s4,s5,s6,s7,s8,s9,s10,s11,s12,s13,s14,s15,s16⟩
                                     go_simp
                                     with_reducible rfl
                                    rotate_left
                                    ·simp only [Act.put,sAx16,sBx16,sCx16,i64_w,i32_w]
                                     rfl
                                    refine pure_ (i:=28) (N:=some 231) (v:=?_) (a':=?_) #[true,true,true,true,true,true,true,true,true,true,true,true,true,true,true,true,true,true,true,true,true,true,true,true,true,true,true,true,true,false,false,true,true,false,false,false,true,true,false,false,false,false,false,false] rfl rfl (any_of HT_.out (by kernel_rfl)) (fun _ _ _ h => h) (Or.inl ⟨by rfl,?_⟩) ?_ ?_
                                    rotate_left
                                    ·intro w'
                                     go_simp
                                     with_reducible rfl
                                    rotate_left
                                    ·simp only [Act.put,sAx16,sBx16,sCx16,i64_w,i32_w]
                                     rfl
                                    refine take_ (i:=29) (N:=some 232) (v:=?_) (a':=?_) #[true,true,true,true,true,true,true,true,true,true,true,true,true,true,true,true,true,true,true,true,true,true,true,true,true,true,true,true,true,true,false,true,true,false,false,false,true,true,false,false,false,false,false,false] rfl rfl (take_ofW HT_.out HW_.out (by kernel_rfl)) (fun _ _ _ h => h) (Or.inl ⟨by rfl,?_⟩) hHeld ?_ ?_
                                    rotate_left
                                    ·rintro w' ⟨s0,s1,s2,s3,s4,s5,s6,s7,s8,s9,s10,s11,s12,s13,s14,s15,s16⟩
                                     go_simp
                                     with_reducible rfl
                                    rotate_left
                                    ·simp only [Act.put,sAx16,sBx16,sCx16,i64_w,i32_w]
                                     rfl
                                    refine take_ (i:=33) (N:=some 236) (v:=?_) (a':=?_) #[true,true,true,true,true,true,true,true,true,true,true,true,true,true,true,true,true,true,true,true,true,true,true,true,true,true,true,true,true,true,false,true,true,true,false,false,true,true,false,false,false,false,false,false] rfl rfl (take_ofW HT_.out HW_.out (by kernel_rfl)) (fun _ _ _ h => h) (Or.inl ⟨by rfl,?_⟩) hHeld ?_ ?_
                                    rotate_left
                                    ·rintro w' ⟨s0,s1,s2,s3,s4,s5,s6,s7,s8,s9,s10,s11,s12,s13,s14,s15,s16⟩
                                     go_simp
                                     with_reducible rfl
                                    rotate_left
                                    ·simp only [Act.put,sAx16,sBx16,sCx16,i64_w,i32_w]
                                     rfl
                                    refine pure_ (i:=34) (N:=some 237) (v:=?_) (a':=?_) #[true,true,true,true,true,true,true,true,true,true,true,true,true,true,true,true,true,true,true,true,true,true,true,true,true,true,true,true,true,true,false,true,true,true,true,false,true,true,false,false,false,false,false,false] rfl rfl (any_of HT_.out (by kernel_rfl)) (fun _ _ _ h => h) (Or.inl ⟨by rfl,?_⟩) ?_ ?_
                                    rotate_left
                                    ·intro w'
                                     go_simp
                                     with_reducible rfl
                                    rotate_left
                                    ·simp only [Act.put,sAx16,sBx16,sCx16,i64_w,i32_w]
                                     rfl
                                    refine take_ (i:=35) (N:=some 238) (v:=?_) (a':=?_) #[true,true,true,true,true,true,true,true,true,true,true,true,true,true,true,true,true,true,true,true,true,true,true,true,true,true,true,true,true,true,false,true,true,true,true,true,true,true,false,false,false,false,false,false] rfl rfl (take_ofW HT_.out HW_.out (by kernel_rfl)) (fun _ _ _ h => h) (Or.inl ⟨by rfl,?_⟩) hHeld ?_ ?_
                                    rotate_left
                                    ·rintro w' ⟨s0,s1,s2,s3,s4,s5,s6,s7,s8,s9,s10,s11,s12,s13,s14,s15,s16⟩
                                     go_simp
                                     with_reducible rfl
                                    rotate_left
                                    ·simp only [Act.put,sAx16,sBx16,sCx16,i64_w,i32_w]
                                     rfl
                                    refine take_ (i:=38) (N:=some 241) (v:=?_) (a':=?_) #[true,true,true,true,true,true,true,true,true,true,true,true,true,true,true,true,true,true,true,true,true,true,true,true,true,true,true,true,true,true,false,true,true,true,true,true,true,true,true,false,false,false,false,false] rfl rfl (take_ofW HT_.out HW_.out (by kernel_rfl)) (fun _ _ _ h => h) (Or.inl ⟨by rfl,?_⟩) hHeld ?_ ?_
                                    rotate_left
                                    ·rintro w' ⟨s0,s1,s2,s3,s4,s5,s6,s7,s8,s9,s10,s11,s12,s13,s14,s15,s16⟩
                                     go_simp
                                     with_reducible rfl
                                    rotate_left
                                    ·simp only [Act.put,sAx16,sBx16,sCx16,i64_w,i32_w]
                                     rfl
                                    refine pure_ (i:=39) (N:=some 242) (v:=?_) (a':=?_) #[true,true,true,true,true,true,true,true,true,true,true,true,true,true,true,true,true,true,true,true,true,true,true,true,true,true,true,true,true,true,false,true,true,true,true,true,true,true,true,true,false,false,false,false] rfl rfl (any_of HT_.out (by kernel_rfl)) (fun _ _ _ h => h) (Or.inl ⟨by rfl,?_⟩) ?_ ?_
                                    rotate_left
                                    ·intro w'
                                     go_simp
                                     with_reducible rfl
                                    rotate_left
                                    ·simp only [Act.put,sAx16,sBx16,sCx16,i64_w,i32_w]
                                     rfl
                                    refine take_ (i:=40) (N:=some 243) (v:=?_) (a':=?_) #[true,true,true,true,true,true,true,true,true,true,true,true,true,true,true,true,true,true,true,true,true,true,true,true,true,true,true,true,true,true,false,true,true,true,true,true,true,true,true,true,true,false,false,false] rfl rfl (take_ofW HT_.out HW_.out (by kernel_rfl)) (fun _ _ _ h => h) (Or.inl ⟨by rfl,?_⟩) hHeld ?_ ?_
                                    rotate_left
                                    ·rintro w' ⟨s0,s1,s2,s3,s4,s5,s6,s7,s8,s9,s10,s11,s12,s13,s14,s15,s16⟩
                                     go_simp
                                     with_reducible rfl
                                    rotate_left
                                    ·simp only [Act.put,sAx16,sBx16,sCx16,i64_w,i32_w]
                                     rfl
                                    refine one_ (i:=30) (N:=some 233) (flx16 41 3) rfl rfl (one_of HT_.out (by kernel_rfl)) (by decide) (fun K hK => ?_)
                                    refine Kd.R_lit_step k47 _ 47 ?hg (N:=233) ?hd (xs:=([(⟨(rd_T47 l0_1 (rd t546 x15_3)).f0,(rd_T47 l0_1 (rd t546 x15_3)).f1,(rd_T47 l0_1 (rd t546 x15_3)).f2⟩ : S47)] : List (S47))) (inner:=[.int .i64 ((rd_T47 l0_1 (rd t546 x15_3)).f0),.int .i64 ((rd_T47 l0_1 (rd t546 x15_3)).f1),.int .i64 ((rd_T47 l0_1 (rd t546 x15_3)).f2)]) (ok:=fun _ => True) (okp:=fun _ => True) ?hr ?hp (fun _ hk => hk) trivial (Below.refl _ _) (Nat.le_refl _) (by simp) ?_;(case hd => rfl);(case hg => rfl);(case hr => first | (go_simp;done) | (go_simp;rfl));(case hp => exact (Reps.c3 (show Kd.M k47 _ _ _ (⟨(rd_T47 l0_1 (rd t546 x15_3)).f0,(rd_T47 l0_1 (rd t546 x15_3)).f1,(rd_T47 l0_1 (rd t546 x15_3)).f2⟩ : S47) [.int .i64 ((rd_T47 l0_1 (rd t546 x15_3)).f0),.int .i64 ((rd_T47 l0_1 (rd t546 x15_3)).f1),.int .i64 ((rd_T47 l0_1 (rd t546 x15_3)).f2)] from (k47_mkM _ _ _ (⟨(rd_T47 l0_1 (rd t546 x15_3)).f0,(rd_T47 l0_1 (rd t546 x15_3)).f1,(rd_T47 l0_1 (rd t546 x15_3)).f2⟩ : S47) )) (Reps.none _ _)))
                                    intro v587 w163 ho164 hb hg_ hnew_
                                    have HS5_:=(hb.cell (World.block_lt_of_cell? _ _ (hHeld.2.2.2.2.2.1))).trans (hHeld.2.2.2.2.2.1)
                                    have HS9_:=(hb.cell (World.block_lt_of_cell? _ _ (hHeld.2.2.2.2.2.2.2.2.2.1))).trans (hHeld.2.2.2.2.2.2.2.2.2.1)
                                    have HS10_:=(hb.cell (World.block_lt_of_cell? _ _ (hHeld.2.2.2.2.2.2.2.2.2.2.1))).trans (hHeld.2.2.2.2.2.2.2.2.2.2.1)
                                    have HS11_:=(hb.cell (World.block_lt_of_cell? _ _ (hHeld.2.2.2.2.2.2.2.2.2.2.2.1))).trans (hHeld.2.2.2.2.2.2.2.2.2.2.2.1)
                                    have HS15_:=(hb.cell (World.block_lt_of_cell? _ _ (hHeld.2.2.2.2.2.2.2.2.2.2.2.2.2.2.2.1))).trans (hHeld.2.2.2.2.2.2.2.2.2.2.2.2.2.2.2.1)
                                    have HS16_:=(hb.cell (World.block_lt_of_cell? _ _ (hHeld.2.2.2.2.2.2.2.2.2.2.2.2.2.2.2.2))).trans (hHeld.2.2.2.2.2.2.2.2.2.2.2.2.2.2.2.2)
                                    clear hg_ hnew_
                                    (first | rw [← Ny586.out] at ho164 | (simp only [Int.reduceToNat] at ho164;rw [← Ny586.out] at ho164))
                                    have n0_:=aMx16 (Kd.R_below (by (with_reducible repeat (first | apply Kd.R_alloc | apply Kd.R_drewN | apply Kd.R_drew));exact HO_9.out) hb)
                                    have n1_:=aMx16 (Kd.R_below (by (with_reducible repeat (first | apply Kd.R_alloc | apply Kd.R_drewN | apply Kd.R_drew));exact HO_10.out) hb)
                                    have n2_:=aMx16 (Kd.R_below (by (with_reducible repeat (first | apply Kd.R_alloc | apply Kd.R_drewN | apply Kd.R_drew));exact HO_14.out) hb)
                                    have n3_:=aMx16 (Kd.R_below (by (with_reducible repeat (first | apply Kd.R_alloc | apply Kd.R_drewN | apply Kd.R_drew));exact HO_533000.out) hb)
                                    have n4_:=aMx16 (Kd.R_elder' (by (with_reducible repeat (first | apply Kd.R_alloc | apply Kd.R_drewN | apply Kd.R_drew));exact HO_533001.out) (Kd.R_base ho164) hb)
                                    have n5_:=aMx16 (Kd.R_elder' (by (with_reducible repeat (first | apply Kd.R_alloc | apply Kd.R_drewN | apply Kd.R_drew));exact HO580.out) (Kd.R_base ho164) hb)
                                    have n6_:=aMx16 (Kd.R_lower (Kd.R_newB (Kd.R_new' (Kd.R_new' ho164 (Kd.R_lt (by (with_reducible repeat (first | apply Kd.R_alloc | apply Kd.R_drewN | apply Kd.R_drew));exact HO_533001.out))) (Kd.R_lt (by (with_reducible repeat (first | apply Kd.R_alloc | apply Kd.R_drewN | apply Kd.R_drew));exact HO580.out))) (g:=gb575) (o:=.cells #[.int .i64 ((rd_T47 t528 x15_3).f0),.int .i64 ((rd_T47 t528 x15_3).f1),.int .i64 ((rd_T47 t528 x15_3).f2)] 47 (0,0)) (by (with_reducible repeat (first | refine blk_drewN ?_ _ | refine blk_drew ?_ | refine blk_alloc ?_ _));exact BK575.out)) (below_size (by repeat (first | (with_reducible first | exact HB.out | apply below_alloc | apply pw_below_drewN | apply below_drew1 | refine below_set ?_ GE522.out | refine below_set ?_ GE532.out | refine below_set ?_ GE575.out) | exact HB.out))))
                                    have n7_:=aMx16 (blk_below (g:=gb522) (o:=.cells #[.slice A0_0 l0_0.length c0_0,.slice (some ad577) l0_1.length c0_1] 25 (0,0)) (by (with_reducible repeat (first | refine blk_drewN ?_ _ | refine blk_drew ?_ | refine blk_alloc ?_ _));exact BK522.out) hb)
                                    have n8_:=aMx16 (blk_below (g:=gb532) (o:=.cells #[.slice Ao21 t525.length co21,.slice (some ad574) t528.length co24] 25 (0,0)) (by (with_reducible repeat (first | refine blk_drewN ?_ _ | refine blk_drew ?_ | refine blk_alloc ?_ _));exact BK532.out) hb)
                                    have n9_:=aMx16 (blk_below (g:=gb575) (o:=.cells #[.int .i64 ((rd_T47 t528 x15_3).f0),.int .i64 ((rd_T47 t528 x15_3).f1),.int .i64 ((rd_T47 t528 x15_3).f2)] 47 (0,0)) (by (with_reducible repeat (first | refine blk_drewN ?_ _ | refine blk_drew ?_ | refine blk_alloc ?_ _));exact BK575.out) hb)
                                    have n10_:=aMx16 (below_step (by repeat (first | (with_reducible first | exact HB.out | apply below_alloc | apply pw_below_drewN | apply below_drew1 | refine below_set ?_ GE522.out | refine below_set ?_ GE532.out | refine below_set ?_ GE575.out) | exact HB.out)) hb)
                                    clear HO_9
                                    clear HO_10
                                    clear HO_14
                                    clear HO_533000
                                    clear HO_533001
                                    clear HO580
                                    clear BK522
                                    clear BK532
                                    clear BK575
                                    clear HB
                                    have HO_9:=n0_
                                    have HO_10:=n1_
                                    have HO_14:=n2_
                                    have HO_533000:=n3_
                                    have HO_533001:=n4_
                                    have HO580:=n5_
                                    have HO588:=n6_
                                    have BK522:=n7_
                                    have BK532:=n8_
                                    have BK575:=n9_
                                    have HB:=n10_
                                    clear n0_ n1_ n2_ n3_ n4_ n5_ n6_ n7_ n8_ n9_ n10_
                                    clear hb ho164
                                    obtain ⟨Ao165,co165,eo165⟩:=Kd.R_slice HO588.out
                                    (first | subst eo165 | (injection eo165 with f1_ f2_ f3_;have f4_:=f1_.symm;have f5_:=f3_.symm;clear f1_ f2_ f3_;subst f4_;subst f5_))
                                    refine hK.out _ _ ⟨(blk_cell BK522.out 0).trans rfl,(blk_cell BK522.out 1).trans rfl,(blk_cell BK575.out 0).trans rfl,(blk_cell BK575.out 1).trans rfl,(blk_cell BK575.out 2).trans rfl,HS5_,((HB.out.cell (World.block_lt_of_cell? w _ hw577_0)).trans hw577_0),((HB.out.cell (World.block_lt_of_cell? w _ hw577_1)).trans hw577_1),((HB.out.cell (World.block_lt_of_cell? w _ hw577_2)).trans hw577_2),HS9_,HS10_,HS11_,((HB.out.cell (World.block_lt_of_cell? w _ hw585_0)).trans hw585_0),((HB.out.cell (World.block_lt_of_cell? w _ hw585_1)).trans hw585_1),((HB.out.cell (World.block_lt_of_cell? w _ hw585_2)).trans hw585_2),HS15_,HS16_⟩ (fun hHeld => ?_)
                                    clear hK K
                                    refine norm_ (a':=?_) ?_ ?_
                                    rotate_left
                                    ·show Act.put _ (some 233) _ = _
                                     simp only [Act.put,sAx16,sBx16,sCx16,i64_w,i32_w]
                                     rfl
                                    refine one_ (i:=41) (N:=some 244) (flx16 42 2) rfl rfl (one_of HT_.out (by kernel_rfl)) (by decide) (fun K hK => ?_)
                                    refine goes_ Tryd.func31 (by kernel_rfl) rfl #[.slice Ao165 y586.length co165,.int .i64 (rd t543 ((rd_T47 t528 x15_3).f1)),.int .i64 (rd t543 ((rd_T47 t528 x15_3).f2))] (by rfl) rfl rfl (by (try simp only [List.map_toArray,List.map_cons,List.map_nil]);first | done | rfl | (simp only [List.length_drop,List.length_take];rfl)) ?_
                                    with_reducible refine (lapidaryref10_Has.calls kj120 _ _ y586 (rd t543 ((rd_T47 t528 x15_3).f1)) (rd t543 ((rd_T47 t528 x15_3).f2)) t591 _ ?side1 ?side2 A148.out).mono ?_
                                    (case side1 => repeat (first|exact (Kd.R_reads' HO588.out).2.2|(with_reducible first|refine Kd.C_alloc ?_ _|refine Kd.C_drewN ?_ _|refine Kd.C_drew ?_)))
                                    (case side2 => exact (Kd.R_reads' HO588.out).2.1)
                                    rintro e w' ⟨rfl,⟨nd,rfl⟩⟩
                                    refine ⟨_,rfl,?_⟩
                                    refine hK.out _ _ ⟨(blk_cell BK522.out 0).trans rfl,(blk_cell BK522.out 1).trans rfl,(blk_cell BK575.out 0).trans rfl,(blk_cell BK575.out 1).trans rfl,(blk_cell BK575.out 2).trans rfl,hHeld.2.2.2.2.2.1,((HB.out.cell (World.block_lt_of_cell? w _ hw577_0)).trans hw577_0),((HB.out.cell (World.block_lt_of_cell? w _ hw577_1)).trans hw577_1),((HB.out.cell (World.block_lt_of_cell? w _ hw577_2)).trans hw577_2),hHeld.2.2.2.2.2.2.2.2.2.1,hHeld.2.2.2.2.2.2.2.2.2.2.1,hHeld.2.2.2.2.2.2.2.2.2.2.2.1,((HB.out.cell (World.block_lt_of_cell? w _ hw585_0)).trans hw585_0),((HB.out.cell (World.block_lt_of_cell? w _ hw585_1)).trans hw585_1),((HB.out.cell (World.block_lt_of_cell? w _ hw585_2)).trans hw585_2),hHeld.2.2.2.2.2.2.2.2.2.2.2.2.2.2.2.1,hHeld.2.2.2.2.2.2.2.2.2.2.2.2.2.2.2.2⟩ (fun hHeld => ?_)
                                    clear hK K
                                    refine norm_ (a':=?_) ?_ ?_
                                    rotate_left
                                    ·show Act.put _ (some 244) _ = _
                                     simp only [Act.put,sAx16,sBx16,sCx16,i64_w,i32_w]
                                     rfl
                                    refine pure_ (i:=42) (N:=some 245) (v:=?_) (a':=?_) (flx16 43 1) rfl rfl (any_of HT_.out (by kernel_rfl)) (fun _ _ _ h => h) (Or.inl ⟨by rfl,?_⟩) ?_ ?_
                                    rotate_left
                                    ·intro w'
                                     go_simp
                                     with_reducible rfl
                                    rotate_left
                                    ·simp only [Act.put,sAx16,sBx16,sCx16,i64_w,i32_w]
                                     rfl
                                    refine pure_ (i:=43) (N:=some 246) (v:=?_) (a':=?_) (flx16 44 0) rfl rfl (any_of HT_.out (by kernel_rfl)) (fun _ _ _ h => h) (Or.inl ⟨by rfl,?_⟩) ?_ ?_
                                    rotate_left
                                    ·intro w'
                                     go_simp
                                     with_reducible rfl
                                    rotate_left
                                    ·simp only [Act.put,sAx16,sBx16,sCx16,i64_w,i32_w]
                                     rfl
                                    refine done_ (done_of HT_.out (by kernel_rfl)) ?_
                                    try go_wp2
                                    go_roundg kj120
                                    case measure => have:=HJ13.out;have:=HK2.out;have:=HK3.out;have:=HJ120.out;omega
                                    case rel => exact ⟨(y573),(wrap64 (x15_3+1)),(by first | rfl | (simp;done) | (simp [*];done) | (simp [wrap64];done)),H',⟨by have:=HJ13.out;have:=HK2.out;have:=HK3.out;have:=HJ120.out;omega⟩,⟨by (with_reducible repeat (first | apply Kd.R_alloc | apply Kd.R_drewN | apply Kd.R_drew));exact HO_9.out⟩,⟨by (with_reducible repeat (first | apply Kd.R_alloc | apply Kd.R_drewN | apply Kd.R_drew));exact HO_10.out⟩,⟨by (with_reducible repeat (first | apply Kd.R_alloc | apply Kd.R_drewN | apply Kd.R_drew));exact HO_14.out⟩,⟨by (with_reducible repeat (first | apply Kd.R_alloc | apply Kd.R_drewN | apply Kd.R_drew));exact HO_533000.out⟩,⟨by (with_reducible repeat (first | apply Kd.R_alloc | apply Kd.R_drewN | apply Kd.R_drew));exact Kd.R_mono HO_533001.out (fun _ hk => trivial)⟩,⟨by (with_reducible repeat (first | refine blk_drewN ?_ _ | refine blk_drew ?_ | refine blk_alloc ?_ _));exact BK522.out⟩,⟨by (with_reducible repeat (first | refine blk_drewN ?_ _ | refine blk_drew ?_ | refine blk_alloc ?_ _));exact BK532.out⟩,⟨by repeat (first | (with_reducible first | exact HB.out | apply below_alloc | apply pw_below_drewN | apply below_drew1 | refine below_set ?_ GE522.out | refine below_set ?_ GE532.out | refine below_set ?_ GE575.out) | exact HB.out)⟩⟩
                                  ·rw [if_neg c149] at H
                                   first | exact absurd (Option.some.inj H) (by rw [HRT.out];decide) | exact absurd H (by simp)
                                 ·rw [if_neg c147] at H
                                  first | exact absurd (Option.some.inj H) (by rw [HRT.out];decide) | exact absurd H (by simp)
                                ·rw [if_neg c146] at H
                                 first | exact absurd (Option.some.inj H) (by rw [HRT.out];decide) | exact absurd H (by simp)
                               ·rw [if_neg c145] at H
                                first | exact absurd (Option.some.inj H) (by rw [HRT.out];decide) | exact absurd H (by simp)
                              ·rw [if_neg c143] at H
                               exact absurd H (by simp)
                             ·rw [if_neg c142] at H
                              exact absurd H (by simp)
                            ·rw [if_neg c141] at H
                             exact absurd H (by simp)
                           ·rw [if_neg c140] at H
                            exact absurd H (by simp)
                          ·rw [if_neg c139] at H
                           exact absurd H (by simp)
                         ·rw [if_neg c138] at H
                          exact absurd H (by simp)
                        ·rw [if_neg c136] at H
                         exact absurd H (by simp)
                       ·rw [if_neg c135] at H
                        exact absurd H (by simp)
                      ·rw [if_neg c134] at H
                       exact absurd H (by simp)
                     ·rw [if_neg c133] at H
                      exact absurd H (by simp)
                 ·rw [if_neg c120] at H
                  have c120b0 : decide (x15_3 < (t546.length : Int)) = false:=decide_eq_false c120
                  clear c120
                  replace H:=Option.bind_eq_some_iff.mp H
                  obtain ⟨t567,A1950,H⟩:=H
                  replace H : (some t567) = some r:=H
                  have A195:=aMx16 A1950
                  clear A1950
                  obtain rfl:=Option.some.inj H
                  obtain ⟨Ao196,co196,eo196⟩:=Kd.R_slice HO_10.out
                  subst eo196
                  go_wp2_with (first|((with_reducible refine gate_callee (f:=19) rfl ?_);refine goesL_ (some 247) rfl rfl Tryd.func19 (by kernel_rfl) rfl #[] rfl (by (try simp only [List.map_toArray,List.map_cons,List.map_nil]);first|done|rfl|(simp only [List.length_drop,List.length_take];rfl)) ?_;(with_reducible refine (lapidarylaw11_known.calls k3  t567 _ ?sideG A195.out).mono ?_);(case sideG => exact Kd.C_below HG.out (by repeat (first|(with_reducible first|exact HB.out|apply below_alloc|apply pw_below_drewN|apply below_drew1|refine below_set ?_ GE522.out|refine below_set ?_ GE532.out)|exact HB.out)));rintro e w197 ⟨rfl,hb⟩;refine ⟨_,rfl,?_⟩;have n0_:=aMx16 (Kd.R_below (by (with_reducible repeat (first|apply Kd.R_alloc|apply Kd.R_drewN|apply Kd.R_drew));exact HO_9.out) hb);have n1_:=aMx16 (Kd.R_below (by (with_reducible repeat (first|apply Kd.R_alloc|apply Kd.R_drewN|apply Kd.R_drew));exact HO_10.out) hb);have n2_:=aMx16 (Kd.R_below (by (with_reducible repeat (first|apply Kd.R_alloc|apply Kd.R_drewN|apply Kd.R_drew));exact HO_14.out) hb);have n3_:=aMx16 (Kd.R_below (by (with_reducible repeat (first|apply Kd.R_alloc|apply Kd.R_drewN|apply Kd.R_drew));exact HO_533000.out) hb);have n4_:=aMx16 (Kd.R_below (by (with_reducible repeat (first|apply Kd.R_alloc|apply Kd.R_drewN|apply Kd.R_drew));exact HO_533001.out) hb);have n5_:=aMx16 (blk_below (g:=gb522) (o:=.cells #[.slice A0_0 l0_0.length c0_0,.slice A0_1 l0_1.length c0_1] 25 (0,0)) (by (with_reducible repeat (first|refine blk_drewN ?_ _|refine blk_drew ?_|refine blk_alloc ?_ _));exact BK522.out) hb);have n6_:=aMx16 (blk_below (g:=gb532) (o:=.cells #[.slice Ao21 t525.length co21,.slice Ao24 t528.length co24] 25 (0,0)) (by (with_reducible repeat (first|refine blk_drewN ?_ _|refine blk_drew ?_|refine blk_alloc ?_ _));exact BK532.out) hb);have n7_:=aMx16 (below_step (by repeat (first|(with_reducible first|exact HB.out|apply below_alloc|apply pw_below_drewN|apply below_drew1|refine below_set ?_ GE522.out|refine below_set ?_ GE532.out)|exact HB.out)) hb);clear HO_9;clear HO_10;clear HO_14;clear HO_533000;clear HO_533001;clear BK522;clear BK532;clear HB;have HO_9:=n0_;have HO_10:=n1_;have HO_14:=n2_;have HO_533000:=n3_;have HO_533001:=n4_;have BK522:=n5_;have BK532:=n6_;have HB:=n7_;clear n0_ n1_ n2_ n3_ n4_ n5_ n6_ n7_;(try clear hb);(try clear hb2);(try clear hk);(try clear hi)))
                  go_ret
                  exact ⟨by first | rfl | (simp [errW_none,errW_some]<;>rfl) | (simp [*,errW_none,errW_some]<;>rfl),by repeat (first | (with_reducible first | exact HB.out | apply below_alloc | apply pw_below_drewN | apply below_drew1 | refine below_set ?_ GE522.out | refine below_set ?_ GE532.out) | exact HB.out)⟩
             ·rw [if_neg c114] at H
              exact absurd H (by simp)
            ·rw [if_neg c113] at H
             exact absurd H (by simp)
       ·rw [if_neg c81] at H
        exact absurd H (by simp)
      ·rw [if_neg c80] at H
       exact absurd H (by simp)
  ·rw [if_neg c10] at H
   have c10b0 : (t531 == 0) = false:=beq_eq_false_iff_ne.mpr c10
   have c10b1 : (t531 != 0) = true:=bne_iff_ne.mpr c10
   by_cases c198 : (t528.length : Int) = 0
   ·rw [if_pos c198] at H
    have c198b0 : ((t528.length : Int) == 0) = true:=beq_iff_eq.mpr c198
    have c198b1 : ((t528.length : Int) != 0) = false:=bne_eq_false_iff_eq.mpr c198
    clear c198
    replace H:=Option.bind_eq_some_iff.mp H
    obtain ⟨t533,A1990,H⟩:=H
    replace H : (if t533 = true then (some false) else ((lapidarylaw11_known.f k).bind fun t534 => (some t534))) = some r:=H
    have A199:=aMx16 A1990
    clear A1990
    by_cases c200 : t533 = true
    ·subst c200
     have H1 : (some false) = some r:=by rw [if_pos rfl] at H;exact H
     exact absurd (Option.some.inj H1) (by rw [HRT.out];decide)
    ·replace c200:=Bool.eq_false_iff.mpr c200
     subst c200
     have H1 : ((lapidarylaw11_known.f k).bind fun t534 => (some t534)) = some r:=by rw [if_neg (show ¬ (false = true) by decide)] at H;exact H
     clear H
     have H:=H1
     clear H1
     replace H:=Option.bind_eq_some_iff.mp H
     obtain ⟨t534,A2130,H⟩:=H
     replace H : (some t534) = some r:=H
     have A213:=aMx16 A2130
     clear A2130
     obtain rfl:=Option.some.inj H
     go_enter Tryd.func7,Tryd.ntmps7
     go_wp2_with (first|((with_reducible refine gate_dst (N:=1) rfl ?_);(try (refine gate_guard (by rfl) ?_;dsimp only));refine box_event ?hg (N:=1) ?hd (cs:=#[.slice A0_0 l0_0.length c0_0,.slice A0_1 l0_1.length c0_1]) (t:=25) ?hr ?_;(case hd => rfl);(case hg => rfl);(case hr => first|(go_simp;done)|(go_simp;rfl));intro gb522 hg w214 hbox hb;have n0_:=aMx16 (below_step (by repeat (with_reducible first|exact HB.out|apply below_alloc|apply pw_below_drewN|apply below_drew1)) hb);have n1_:=aMx16 (hbox);have n2_:=aMx16 ((by rw [hg];exact (below_size (by repeat (with_reducible first|exact HB.out|apply below_alloc|apply pw_below_drewN|apply below_drew1))) : w.heap.size ≤ gb522));have n3_:=aMx16 ((by rw [hg];exact (below_size (by repeat (with_reducible first|exact HB.out|apply below_alloc|apply pw_below_drewN|apply below_drew1))) : w.heap.size ≤ gb522));clear HB;have HB:=n0_;have BK522:=n1_;have GW522:=n2_;have GE522:=n3_;clear n0_ n1_ n2_ n3_;clear hb hbox hg;have hcz215_0 : w214.cell? ⟨gb522,0,none⟩ = some (.slice A0_0 l0_0.length c0_0):=(blk_cell BK522.out 0).trans rfl;have hcz215_1 : w214.cell? ⟨gb522,1,none⟩ = some (.slice A0_1 l0_1.length c0_1):=(blk_cell BK522.out 1).trans rfl;have hfz215_0:=blk_frozen BK522.out 0;have hfz215_1:=blk_frozen BK522.out 1)|((with_reducible refine gate_callee (f:=18) rfl ?_);refine goesL_ (some 18) rfl rfl Tryd.func18 (by kernel_rfl) rfl #[.agg #[.slice A0_0 l0_0.length c0_0,.slice A0_1 l0_1.length c0_1]] rfl (by (try simp only [List.map_toArray,List.map_cons,List.map_nil]);first|done|rfl|(simp only [List.length_drop,List.length_take];rfl)) ?_;(with_reducible refine (lapidarylaw11_long.calls _ _ l0_0 _ _ l0_1 false _ ?side1 ?side2 ?side3 ?side4 A2.out).mono ?_);(case side1 => repeat (first|exact (Kd.C_below HR0_0.out HB.out)|(with_reducible first|refine Kd.C_alloc ?_ _|refine Kd.C_drewN ?_ _|refine Kd.C_drew ?_)));(case side2 => exact HC0_0.out);(case side3 => repeat (first|exact (Kd.C_below HR0_1.out HB.out)|(with_reducible first|refine Kd.C_alloc ?_ _|refine Kd.C_drewN ?_ _|refine Kd.C_drew ?_)));(case side4 => exact HC0_1.out);rintro e w216 ⟨rfl,hb⟩;refine ⟨_,rfl,?_⟩;have n0_:=aMx16 (blk_below (g:=gb522) (o:=.cells #[.slice A0_0 l0_0.length c0_0,.slice A0_1 l0_1.length c0_1] 25 (0,0)) (by (with_reducible repeat (first|refine blk_drewN ?_ _|refine blk_drew ?_|refine blk_alloc ?_ _));exact BK522.out) hb);have n1_:=aMx16 (below_step (by repeat (first|(with_reducible first|exact HB.out|apply below_alloc|apply pw_below_drewN|apply below_drew1|refine below_set ?_ GE522.out)|exact HB.out)) hb);clear BK522;clear HB;have BK522:=n0_;have HB:=n1_;clear n0_ n1_;(try clear hb);(try clear hb2);(try clear hk);(try clear hi);have hcz217_0 : w216.cell? ⟨gb522,0,none⟩ = some (.slice A0_0 l0_0.length c0_0):=(blk_cell BK522.out 0).trans rfl;have hcz217_1 : w216.cell? ⟨gb522,1,none⟩ = some (.slice A0_1 l0_1.length c0_1):=(blk_cell BK522.out 1).trans rfl;have hfz217_0:=blk_frozen BK522.out 0;have hfz217_1:=blk_frozen BK522.out 1)|((with_reducible refine gate_callee (f:=27) rfl ?_);refine goesL_ (some 22) rfl rfl Tryd.func27 (by kernel_rfl) rfl #[.agg #[.slice A0_0 l0_0.length c0_0,.slice A0_1 l0_1.length c0_1]] rfl (by (try simp only [List.map_toArray,List.map_cons,List.map_nil]);first|done|rfl|(simp only [List.length_drop,List.length_take];rfl)) ?_;(with_reducible refine (walk_Canon.calls _ _ l0_0 _ _ l0_1 t525 t528 t531 _ ?side1 ?side2 ?side3 ?side4 ?sideG A9.out).mono ?_);(case sideG => exact Kd.C_below HG.out (by repeat (first|(with_reducible first|exact HB.out|apply below_alloc|apply pw_below_drewN|apply below_drew1|refine below_set ?_ GE522.out|refine below_set ?_ GE532.out)|exact HB.out)));(case side1 => repeat (first|exact (Kd.C_below HR0_0.out HB.out)|(with_reducible first|refine Kd.C_alloc ?_ _|refine Kd.C_drewN ?_ _|refine Kd.C_drew ?_)));(case side2 => exact HC0_0.out);(case side3 => repeat (first|exact (Kd.C_below HR0_1.out HB.out)|(with_reducible first|refine Kd.C_alloc ?_ _|refine Kd.C_drewN ?_ _|refine Kd.C_drew ?_)));(case side4 => exact HC0_1.out);rintro e w218 ⟨v526,v529,rfl,ho0,ho1,hb⟩;refine ⟨_,rfl,?_⟩;have n0_:=aMx16 (Kd.R_lower ho0 (below_size (by repeat (first|(with_reducible first|exact HB.out|apply below_alloc|apply pw_below_drewN|apply below_drew1|refine below_set ?_ GE522.out)|exact HB.out))));have n1_:=aMx16 (Kd.R_lower ho1 (below_size (by repeat (first|(with_reducible first|exact HB.out|apply below_alloc|apply pw_below_drewN|apply below_drew1|refine below_set ?_ GE522.out)|exact HB.out))));have n2_:=aMx16 (blk_below (g:=gb522) (o:=.cells #[.slice A0_0 l0_0.length c0_0,.slice A0_1 l0_1.length c0_1] 25 (0,0)) (by (with_reducible repeat (first|refine blk_drewN ?_ _|refine blk_drew ?_|refine blk_alloc ?_ _));exact BK522.out) hb);have n3_:=aMx16 (below_step (by repeat (first|(with_reducible first|exact HB.out|apply below_alloc|apply pw_below_drewN|apply below_drew1|refine below_set ?_ GE522.out)|exact HB.out)) hb);clear BK522;clear HB;have HO527:=n0_;have HO530:=n1_;have BK522:=n2_;have HB:=n3_;clear n0_ n1_ n2_ n3_;(try clear hb);(try clear hb2);(try clear hk);(try clear hi);(try clear ho0);(try clear ho1))|((with_reducible refine gate_dst (N:=3) rfl ?_);(try (refine gate_guard (by rfl) ?_;dsimp only));refine box_event ?hg (N:=3) ?hd (cs:=#[.slice none 0 0,.slice none 0 0]) (t:=25) ?hr ?_;(case hd => rfl);(case hg => rfl);(case hr => first|(go_simp;done)|(go_simp;rfl));intro gb532 hg w219 hbox hb;have n0_:=aMx16 (Kd.R_below (by (with_reducible repeat (first|apply Kd.R_alloc|apply Kd.R_drewN|apply Kd.R_drew));exact HO527.out) hb);have n1_:=aMx16 (Kd.R_below (by (with_reducible repeat (first|apply Kd.R_alloc|apply Kd.R_drewN|apply Kd.R_drew));exact HO530.out) hb);have n2_:=aMx16 (blk_below (g:=gb522) (o:=.cells #[.slice A0_0 l0_0.length c0_0,.slice A0_1 l0_1.length c0_1] 25 (0,0)) (by (with_reducible repeat (first|refine blk_drewN ?_ _|refine blk_drew ?_|refine blk_alloc ?_ _));exact BK522.out) hb);have n3_:=aMx16 (below_step (by repeat (first|(with_reducible first|exact HB.out|apply below_alloc|apply pw_below_drewN|apply below_drew1|refine below_set ?_ GE522.out)|exact HB.out)) hb);have n4_:=aMx16 (hbox);have n5_:=aMx16 ((by rw [hg];exact (below_size (by repeat (first|(with_reducible first|exact HB.out|apply below_alloc|apply pw_below_drewN|apply below_drew1|refine below_set ?_ GE522.out)|exact HB.out))) : w.heap.size ≤ gb532));have n6_:=aMx16 ((by rw [hg];exact (below_size (by repeat (first|(with_reducible first|exact HB.out|apply below_alloc|apply pw_below_drewN|apply below_drew1|refine below_set ?_ GE522.out)|exact HB.out))) : w.heap.size ≤ gb532));have n7_:=aMx16 ((by rw [hg];exact Nat.ne_of_lt (blk_lt (g:=gb522) (o:=.cells #[.slice A0_0 l0_0.length c0_0,.slice A0_1 l0_1.length c0_1] 25 (0,0)) (by (with_reducible repeat (first|refine blk_drewN ?_ _|refine blk_drew ?_|refine blk_alloc ?_ _));exact BK522.out)) : gb522 ≠ gb532));have n8_:=aMx16 ((by rw [hg];exact Nat.ne_of_gt (blk_lt (g:=gb522) (o:=.cells #[.slice A0_0 l0_0.length c0_0,.slice A0_1 l0_1.length c0_1] 25 (0,0)) (by (with_reducible repeat (first|refine blk_drewN ?_ _|refine blk_drew ?_|refine blk_alloc ?_ _));exact BK522.out)) : gb532 ≠ gb522));clear HO527;clear HO530;clear BK522;clear HB;have HO527:=n0_;have HO530:=n1_;have BK522:=n2_;have HB:=n3_;have BK532:=n4_;have GW532:=n5_;have GE532:=n6_;have NB522_532:=n7_;have NB532_522:=n8_;clear n0_ n1_ n2_ n3_ n4_ n5_ n6_ n7_ n8_;clear hb hbox hg;obtain ⟨Ao220,co220,eo220⟩:=Kd.R_slice HO527.out;subst eo220;have hnb221:=NB532_522.out;have hnc221:=NB522_532.out;have hcz222_0 : w219.cell? ⟨gb532,0,none⟩ = some (.slice none 0 0):=(blk_cell BK532.out 0).trans rfl;have hcz222_1 : w219.cell? ⟨gb532,1,none⟩ = some (.slice none 0 0):=(blk_cell BK532.out 1).trans rfl;have hfz222_0:=blk_frozen BK532.out 0;have hfz222_1:=blk_frozen BK532.out 1;obtain ⟨Ao223,co223,eo223⟩:=Kd.R_slice HO530.out;subst eo223;have hcz224_0 : w219.cell? ⟨gb522,0,none⟩ = some (.slice A0_0 l0_0.length c0_0):=(blk_cell BK522.out 0).trans rfl;have hcz224_1 : w219.cell? ⟨gb522,1,none⟩ = some (.slice A0_1 l0_1.length c0_1):=(blk_cell BK522.out 1).trans rfl;have hfz224_0:=blk_frozen BK522.out 0;have hfz224_1:=blk_frozen BK522.out 1)|(go_at_call 30;(with_reducible refine (walk_Is.calls k _ _ l0_0 _ _ l0_1 false _ ?side1 ?side2 ?side3 ?side4 ?sideG A199.out).mono ?_);(case sideG => exact Kd.C_below HG.out (by repeat (first|(with_reducible first|exact HB.out|apply below_alloc|apply pw_below_drewN|apply below_drew1|refine below_set ?_ GE522.out|refine below_set ?_ GE532.out)|exact HB.out)));(case side1 => exact Kd.C_below HR0_0.out (by repeat (first|(with_reducible first|exact HB.out|apply below_alloc|apply pw_below_drewN|apply below_drew1|refine below_set ?_ GE522.out|refine below_set ?_ GE532.out)|exact HB.out)));(case side2 => exact HC0_0.out);(case side3 => exact Kd.C_below HR0_1.out (by repeat (first|(with_reducible first|exact HB.out|apply below_alloc|apply pw_below_drewN|apply below_drew1|refine below_set ?_ GE522.out|refine below_set ?_ GE532.out)|exact HB.out)));(case side4 => exact HC0_1.out);rintro e w225 ⟨rfl,hb⟩;have n0_:=aMx16 (Kd.R_below (by (with_reducible repeat (first|apply Kd.R_alloc|apply Kd.R_drewN|apply Kd.R_drew));exact (Kd.R_mono (Kd.R_far (p:=⟨gb532,1,none⟩) (Kd.R_far (p:=⟨gb532,0,none⟩) (Kd.R_types HO527.out BK532.out (by decide)) (fun _ hk => hk.2) (.slice Ao220 t525.length co220)) (fun _ hk => hk.2) (.slice Ao223 t528.length co223)) (fun _ h_ => h_.1))) hb);have n1_:=aMx16 (Kd.R_below (by (with_reducible repeat (first|apply Kd.R_alloc|apply Kd.R_drewN|apply Kd.R_drew));exact (Kd.R_mono (Kd.R_far (p:=⟨gb532,1,none⟩) (Kd.R_far (p:=⟨gb532,0,none⟩) (Kd.R_types HO530.out BK532.out (by decide)) (fun _ hk => hk.2) (.slice Ao220 t525.length co220)) (fun _ hk => hk.2) (.slice Ao223 t528.length co223)) (fun _ h_ => h_.1))) hb);have n2_:=aMx16 (blk_below (g:=gb522) (o:=.cells #[.slice A0_0 l0_0.length c0_0,.slice A0_1 l0_1.length c0_1] 25 (0,0)) (by (with_reducible repeat (first|refine blk_drewN ?_ _|refine blk_drew ?_|refine blk_alloc ?_ _));refine blk_far ?_ NB522_532.out _;(with_reducible repeat (first|refine blk_drewN ?_ _|refine blk_drew ?_|refine blk_alloc ?_ _));refine blk_far ?_ NB522_532.out _;(with_reducible repeat (first|refine blk_drewN ?_ _|refine blk_drew ?_|refine blk_alloc ?_ _));exact BK522.out) hb);have n3_:=aMx16 (blk_below (g:=gb532) (o:=.cells #[.slice Ao220 t525.length co220,.slice Ao223 t528.length co223] 25 (0,0)) (by (with_reducible repeat (first|refine blk_drewN ?_ _|refine blk_drew ?_|refine blk_alloc ?_ _));refine blk_put (cs:=#[.slice Ao220 t525.length co220,.slice none 0 0]) ?_ 1 _ rfl;(with_reducible repeat (first|refine blk_drewN ?_ _|refine blk_drew ?_|refine blk_alloc ?_ _));refine blk_put (cs:=#[.slice none 0 0,.slice none 0 0]) ?_ 0 _ rfl;(with_reducible repeat (first|refine blk_drewN ?_ _|refine blk_drew ?_|refine blk_alloc ?_ _));exact BK532.out) hb);have n4_:=aMx16 (below_step (by repeat (first|(with_reducible first|exact HB.out|apply below_alloc|apply pw_below_drewN|apply below_drew1|refine below_set ?_ GE522.out|refine below_set ?_ GE532.out)|exact HB.out)) hb);clear HO527;clear HO530;clear BK522;clear BK532;clear HB;have HO527:=n0_;have HO530:=n1_;have BK522:=n2_;have BK532:=n3_;have HB:=n4_;clear n0_ n1_ n2_ n3_ n4_;(try clear hb);(try clear hb2);(try clear hk);(try clear hi))|(go_at_call 19;(with_reducible refine (lapidarylaw11_known.calls k  t534 _ ?sideG A213.out).mono ?_);(case sideG => exact Kd.C_below HG.out (by repeat (first|(with_reducible first|exact HB.out|apply below_alloc|apply pw_below_drewN|apply below_drew1|refine below_set ?_ GE522.out|refine below_set ?_ GE532.out)|exact HB.out)));rintro e w226 ⟨rfl,hb⟩;have n0_:=aMx16 (Kd.R_below (by (with_reducible repeat (first|apply Kd.R_alloc|apply Kd.R_drewN|apply Kd.R_drew));exact HO527.out) hb);have n1_:=aMx16 (Kd.R_below (by (with_reducible repeat (first|apply Kd.R_alloc|apply Kd.R_drewN|apply Kd.R_drew));exact HO530.out) hb);have n2_:=aMx16 (blk_below (g:=gb522) (o:=.cells #[.slice A0_0 l0_0.length c0_0,.slice A0_1 l0_1.length c0_1] 25 (0,0)) (by (with_reducible repeat (first|refine blk_drewN ?_ _|refine blk_drew ?_|refine blk_alloc ?_ _));exact BK522.out) hb);have n3_:=aMx16 (blk_below (g:=gb532) (o:=.cells #[.slice Ao220 t525.length co220,.slice Ao223 t528.length co223] 25 (0,0)) (by (with_reducible repeat (first|refine blk_drewN ?_ _|refine blk_drew ?_|refine blk_alloc ?_ _));exact BK532.out) hb);have n4_:=aMx16 (below_step (by repeat (first|(with_reducible first|exact HB.out|apply below_alloc|apply pw_below_drewN|apply below_drew1|refine below_set ?_ GE522.out|refine below_set ?_ GE532.out)|exact HB.out)) hb);clear HO527;clear HO530;clear BK522;clear BK532;clear HB;have HO527:=n0_;have HO530:=n1_;have BK522:=n2_;have BK532:=n3_;have HB:=n4_;clear n0_ n1_ n2_ n3_ n4_;(try clear hb);(try clear hb2);(try clear hk);(try clear hi)))
     go_ret
     exact ⟨by first | rfl | (simp [errW_none,errW_some]<;>rfl) | (simp [*,errW_none,errW_some]<;>rfl),by repeat (first | (with_reducible first | exact HB.out | apply below_alloc | apply pw_below_drewN | apply below_drew1 | refine below_set ?_ GE522.out | refine below_set ?_ GE532.out) | exact HB.out)⟩
   ·rw [if_neg c198] at H
    first | exact absurd (Option.some.inj H) (by rw [HRT.out];decide) | exact absurd H (by simp)
end Go.Proofs.YtomknjmgcbbjlaaDoor.PWlk
