-- Written for this claim by a program of this session.
import Derived.Test.YthegimfokcdehaaPCodx0
import Derived.Test.YthegimfokcdehaaPCodx1
import Derived.Test.YthegimfokcdehaaPCodx2
import Derived.Test.YthegimfokcdehaaPCodx2b
import Derived.Test.YthegimfokcdehaaPCodx3
import Derived.Test.YthegimfokcdehaaPCodx7c
import Derived.Test.YthegimfokcdehaaEncStub
namespace Go.Proofs.Ythegimfokcdehaa.PCod
open Go.RowKit Go.Proofs.YthegimfokcdehaaW.PrintWords Go.Proofs.YthegimfokcdehaaW.PrintLast Go.Proofs.YthegimfokcdehaaW.PrintMore
attribute [local go_sem] max2_int min2_int max_two min_two max_three min_three max_four min_four   -- for this text's walks alone
set_option linter.unusedVariables false
set_option linter.unusedSimpArgs false

attribute [local go_sem high] eqA41
theorem sAx13 {α : Type _} {l : List α} {i : Nat} {a : α} : l.toArray.setIfInBounds i a = (l.set i a).toArray := List.setIfInBounds_toArray ..
theorem sBx13 {α : Type _} {x y : α} {l : List α} : (x :: l).set 0 y = y :: l := rfl
theorem sCx13 {α : Type _} {x y : α} {l : List α} {i : Nat} : (x :: l).set (i + 1) y = x :: l.set i y := rfl
theorem aMx13 {p : Prop} (h : p) : Aside0 p := ⟨h⟩
/-! ### lapidarylaw06_CoderPlain: function 8 -/
def lapidarylaw06_CoderPlain.f (k : Nat) (a0 : Int) (a1 : Int) (a2 : Int) : Option (Bool) := if 0 ≤ (wrap64 (1 + (wrap64 (Int.tmod a0 16)))) then (if (shl .i64 1 (wrap64 (1 + (wrap64 (Int.tmod a0 16))))) = 0 then (none) else ((coder_Encode.f ([] : List Int) (([(⟨wrap64 (-(wrap64 (1 + (wrap64 (Int.tmod a0 16))))), Int.tmod (wrap64 (a1)) (shl .i64 1 (wrap64 (1 + (wrap64 (Int.tmod a0 16)))))⟩ : S41)] : List (S41)))).bind fun bt178 => ((coder_Encode.f ([] : List Int) (([(⟨wrap64 (-(wrap64 (1 + (wrap64 (Int.tmod a0 16))))), Int.tmod (wrap64 (a2)) (shl .i64 1 (wrap64 (1 + (wrap64 (Int.tmod a0 16)))))⟩ : S41)] : List (S41)))).bind fun bt185 => ((coder_Decode.f ([] : List Int) (([wrap64 (-(wrap64 (1 + (wrap64 (Int.tmod a0 16)))))] : List Int)) bt178.1).bind fun bt192 => (if bt178.2 = 0 then (if bt185.2 = 0 then (if bt192.2 = 0 then ((lapidaryref06_Same.f k bt192.1 (([(⟨wrap64 (-(wrap64 (1 + (wrap64 (Int.tmod a0 16))))), Int.tmod (wrap64 (a1)) (shl .i64 1 (wrap64 (1 + (wrap64 (Int.tmod a0 16)))))⟩ : S41)] : List (S41)))).bind fun t199 => (if t199 = true then ((lapidaryref00_Same.f bt178.1 bt185.1).bind fun t200 => (if (t200 == ((Int.tmod (wrap64 (a1)) (shl .i64 1 (wrap64 (1 + (wrap64 (Int.tmod a0 16)))))) == (Int.tmod (wrap64 (a2)) (shl .i64 1 (wrap64 (1 + (wrap64 (Int.tmod a0 16)))))))) = true then ((lapidarylaw06_known.f k).bind fun t201 => (some t201)) else (some false))) else (some false))) else (some false)) else (some false)) else (some false)))))) else (none)
theorem lapidarylaw06_CoderPlain.mono : ∀ a0 a1 a2 k, LeO (lapidarylaw06_CoderPlain.f k a0 a1 a2) (lapidarylaw06_CoderPlain.f (k + 1) a0 a1 a2) := by
  intro a0 a1 a2 k
  unfold lapidarylaw06_CoderPlain.f
  repeat' first
      | (with_reducible exact lapidarylaw06_known.mono _)
      | (with_reducible exact lapidaryref06_Same.mono _ _ _)
      | (with_reducible exact LeO.refl _)
      | (with_reducible exact LeO.none _)
      | (with_reducible refine LeO.ite ?_ ?_)
      | (with_reducible refine LeO.bind ?_ (fun _ => ?_))
      | exact lapidarylaw06_known.mono _
      | exact lapidaryref06_Same.mono _ _ _
      | exact LeO.none _
      | refine LeO.ite ?_ ?_
      | refine LeO.bind ?_ (fun _ => ?_)
def lapidarylaw06_CoderPlain.T7 : Bool × List (List Nat × List Nat) := (true, [([], []), ([0], [0]), ([1], [1]), ([2], [2]), ([3, 2], [2, 3]), ([2, 4], [2, 4]), ([5, 2], [5]), ([6], [6]), ([7, 6], [6, 7]), ([6, 8], [6, 8]), ([9, 6], [9]), ([10], [10]), ([10], [10]), ([12, 10], [10, 12]), ([11, 13, 10, 10], [10, 11, 13]), ([10, 14], [10, 14]), ([15, 14], [15]), ([16], [16]), ([16], [16]), ([17, 18, 16, 16], [16, 17, 18]), ([16], [16]), ([16], [16]), ([20, 21, 16], [16, 20, 21]), ([19, 22, 16], [16, 19, 22]), ([16, 23], [16, 23]), ([24, 19], [24]), ([25, 25], [25]), ([25, 26], [25, 26]), ([27, 26, 0, 1, 2, 3, 4, 5, 6, 7, 8, 9, 10, 11, 12, 13, 14, 15, 16, 17, 18, 19, 20, 21, 22, 23, 24, 25, 26, 27], [27])])
def lapidarylaw06_CoderPlain.B7 : List Nat := [0, 1, 3, 7, 15, 31, 63, 127, 255, 511, 1023, 2047, 2047, 6143, 16383, 32767, 65535, 131071, 131071, 524287, 131071, 131071, 3276799, 8388607, 16777215, 33554431, 67108863, 134217727, 268435455]
theorem lapidarylaw06_CoderPlain.tab7 : rtab .any (opsOf Try.f8 7) = lapidarylaw06_CoderPlain.T7 := by kernel_rfl
theorem lapidarylaw06_CoderPlain.bits7 : waitsOk lapidarylaw06_CoderPlain.T7.2 lapidarylaw06_CoderPlain.B7 = true := by kernel_rfl
set_option maxHeartbeats 8000000 in
set_option maxRecDepth 100000 in
theorem lapidarylaw06_CoderPlain.calls (k : Nat) (a0 : Int) (a1 : Int) (a2 : Int) (r : Bool) (w : World) (h : lapidarylaw06_CoderPlain.f k a0 a1 a2 = some r) :
  Calls Try.prog 8 #[.int .u8 a0,.int .u16 a1,.int .u16 a2] w fun e w' => e = .returned (.bool r) ∧ Below w.heap.size w w':=by
 have hu41:=Try.underlying41
 have HB:=aMx13 (Below.refl w.heap.size w)
 have H : (if 0 ≤ (wrap64 (1+(wrap64 (Int.tmod a0 16)))) then (if (shl .i64 1 (wrap64 (1+(wrap64 (Int.tmod a0 16))))) = 0 then (none) else ((coder_Encode.f ([] : List Int) (([(⟨wrap64 (-(wrap64 (1+(wrap64 (Int.tmod a0 16))))),Int.tmod (wrap64 (a1)) (shl .i64 1 (wrap64 (1+(wrap64 (Int.tmod a0 16)))))⟩ : S41)] : List (S41)))).bind fun bt178 => ((coder_Encode.f ([] : List Int) (([(⟨wrap64 (-(wrap64 (1+(wrap64 (Int.tmod a0 16))))),Int.tmod (wrap64 (a2)) (shl .i64 1 (wrap64 (1+(wrap64 (Int.tmod a0 16)))))⟩ : S41)] : List (S41)))).bind fun bt185 => ((coder_Decode.f ([] : List Int) (([wrap64 (-(wrap64 (1+(wrap64 (Int.tmod a0 16)))))] : List Int)) bt178.1).bind fun bt192 => (if bt178.2 = 0 then (if bt185.2 = 0 then (if bt192.2 = 0 then ((lapidaryref06_Same.f k bt192.1 (([(⟨wrap64 (-(wrap64 (1+(wrap64 (Int.tmod a0 16))))),Int.tmod (wrap64 (a1)) (shl .i64 1 (wrap64 (1+(wrap64 (Int.tmod a0 16)))))⟩ : S41)] : List (S41)))).bind fun t199 => (if t199 = true then ((lapidaryref00_Same.f bt178.1 bt185.1).bind fun t200 => (if (t200 == ((Int.tmod (wrap64 (a1)) (shl .i64 1 (wrap64 (1+(wrap64 (Int.tmod a0 16)))))) == (Int.tmod (wrap64 (a2)) (shl .i64 1 (wrap64 (1+(wrap64 (Int.tmod a0 16)))))))) = true then ((lapidarylaw06_known.f k).bind fun t201 => (some t201)) else (some false))) else (some false))) else (some false)) else (some false)) else (some false)))))) else (none)) = some r:=h
 clear h
 obtain ⟨ji4,hji4⟩ : ∃ j_ : Int,(wrap64 (1+(wrap64 (Int.tmod a0 16)))) = j_:=⟨_,rfl⟩
 replace H : (if 0 ≤ (ji4) then (if (shl .i64 1 (ji4)) = 0 then (none) else ((coder_Encode.f ([] : List Int) (([(⟨wrap64 (-(ji4)),Int.tmod (wrap64 (a1)) (shl .i64 1 (ji4))⟩ : S41)] : List (S41)))).bind fun bt178 => ((coder_Encode.f ([] : List Int) (([(⟨wrap64 (-(ji4)),Int.tmod (wrap64 (a2)) (shl .i64 1 (ji4))⟩ : S41)] : List (S41)))).bind fun bt185 => ((coder_Decode.f ([] : List Int) (([wrap64 (-(ji4))] : List Int)) bt178.1).bind fun bt192 => (if bt178.2 = 0 then (if bt185.2 = 0 then (if bt192.2 = 0 then ((lapidaryref06_Same.f k bt192.1 (([(⟨wrap64 (-(ji4)),Int.tmod (wrap64 (a1)) (shl .i64 1 (ji4))⟩ : S41)] : List (S41)))).bind fun t199 => (if t199 = true then ((lapidaryref00_Same.f bt178.1 bt185.1).bind fun t200 => (if (t200 == ((Int.tmod (wrap64 (a1)) (shl .i64 1 (ji4))) == (Int.tmod (wrap64 (a2)) (shl .i64 1 (ji4))))) = true then ((lapidarylaw06_known.f k).bind fun t201 => (some t201)) else (some false))) else (some false))) else (some false)) else (some false)) else (some false)))))) else (none)) = some r:=by first | (rw [hji4] at H;exact H) | (simp only [hji4] at H ⊢;exact H)
 have hji4w : (IntKind.i64.wrap (1+(wrap64 (Int.tmod a0 16)))) = ji4:=(i64_w _).trans hji4
 by_cases c5 : 0 ≤ (ji4)
 ·rw [if_pos c5] at H
  have c5b0:=eq_true c5
  have c5b1 : decide (0 ≤ (ji4)) = true:=decide_eq_true c5
  clear c5
  obtain ⟨ji6,hji6⟩ : ∃ j_ : Int,(shl .i64 1 (ji4)) = j_:=⟨_,rfl⟩
  replace H : (if (ji6) = 0 then (none) else ((coder_Encode.f ([] : List Int) (([(⟨wrap64 (-(ji4)),Int.tmod (wrap64 (a1)) (ji6)⟩ : S41)] : List (S41)))).bind fun bt178 => ((coder_Encode.f ([] : List Int) (([(⟨wrap64 (-(ji4)),Int.tmod (wrap64 (a2)) (ji6)⟩ : S41)] : List (S41)))).bind fun bt185 => ((coder_Decode.f ([] : List Int) (([wrap64 (-(ji4))] : List Int)) bt178.1).bind fun bt192 => (if bt178.2 = 0 then (if bt185.2 = 0 then (if bt192.2 = 0 then ((lapidaryref06_Same.f k bt192.1 (([(⟨wrap64 (-(ji4)),Int.tmod (wrap64 (a1)) (ji6)⟩ : S41)] : List (S41)))).bind fun t199 => (if t199 = true then ((lapidaryref00_Same.f bt178.1 bt185.1).bind fun t200 => (if (t200 == ((Int.tmod (wrap64 (a1)) (ji6)) == (Int.tmod (wrap64 (a2)) (ji6)))) = true then ((lapidarylaw06_known.f k).bind fun t201 => (some t201)) else (some false))) else (some false))) else (some false)) else (some false)) else (some false)))))) = some r:=by first | (rw [hji6] at H;exact H) | (simp only [hji6] at H ⊢;exact H)
  have hji6_ : (IntKind.i64.wrap (1 * 2 ^ min (ji4).toNat 64)) = ji6:=hji6
  have hji6z : (ji4) ≤ 64 → (IntKind.i64.wrap (1 * 2 ^ (ji4).toNat)) = ji6:=shl_small hji6
  have hji6u : (IntKind.i64.wrap (2 ^ min (ji4).toNat 64)) = ji6:=by have h_:=hji6_;rw [Int.one_mul] at h_;exact h_
  have hji6v : (ji4) ≤ 64 → (IntKind.i64.wrap (2 ^ (ji4).toNat)) = ji6:=fun hle_ => by have h_:=hji6z hle_;rw [Int.one_mul] at h_;exact h_
  have hji6y : (wrap64 (1 * 2 ^ min (ji4).toNat 64)) = ji6:=(i64_w _).symm.trans hji6_
  have hji6x : (ji4) ≤ 64 → (wrap64 (1 * 2 ^ (ji4).toNat)) = ji6:=fun h_ => (i64_w _).symm.trans (hji6z h_)
  by_cases c7 : (ji6) = 0
  ·rw [if_pos c7] at H
   exact absurd H (by simp)
  ·rw [if_neg c7] at H
   have c7b0 : ((ji6) == 0) = false:=beq_eq_false_iff_ne.mpr c7
   have c7b1 : ((ji6) != 0) = true:=bne_iff_ne.mpr c7
   have c8b0:=eq_true (of_decide_eq_true (by first | (with_reducible assumption) | assumption) : 0 ≤ (ji4))
   obtain ⟨y175,hy175⟩ : ∃ y_ : List (S41),y_ = (([(⟨wrap64 (-(ji4)),Int.tmod (wrap64 (a1)) (ji6)⟩ : S41)] : List (S41))):=⟨_,rfl⟩
   replace H : ((coder_Encode.f ([] : List Int) y175).bind fun bt178 => ((coder_Encode.f ([] : List Int) (([(⟨wrap64 (-(ji4)),Int.tmod (wrap64 (a2)) (ji6)⟩ : S41)] : List (S41)))).bind fun bt185 => ((coder_Decode.f ([] : List Int) (([wrap64 (-(ji4))] : List Int)) bt178.1).bind fun bt192 => (if bt178.2 = 0 then (if bt185.2 = 0 then (if bt192.2 = 0 then ((lapidaryref06_Same.f k bt192.1 (([(⟨wrap64 (-(ji4)),Int.tmod (wrap64 (a1)) (ji6)⟩ : S41)] : List (S41)))).bind fun t199 => (if t199 = true then ((lapidaryref00_Same.f bt178.1 bt185.1).bind fun t200 => (if (t200 == ((Int.tmod (wrap64 (a1)) (ji6)) == (Int.tmod (wrap64 (a2)) (ji6)))) = true then ((lapidarylaw06_known.f k).bind fun t201 => (some t201)) else (some false))) else (some false))) else (some false)) else (some false)) else (some false))))) = some r:=by first | (rw [hy175];with_reducible exact H) | (have H2_:=(Option.bind_some _ _).symm.trans H;rw [hy175];with_reducible exact H2_) | (have H2_:=(Option.bind_some _ _).symm.trans H;with_reducible exact H2_) | with_reducible exact H | (rw [hy175];exact H) | exact H
   have Ny175:=aMx13 hy175
   clear hy175
   replace H:=Option.bind_eq_some_iff.mp H
   obtain ⟨⟨t178,t179⟩,A100,H⟩:=H
   replace H : ((coder_Encode.f ([] : List Int) (([(⟨wrap64 (-(ji4)),Int.tmod (wrap64 (a2)) (ji6)⟩ : S41)] : List (S41)))).bind fun bt185 => ((coder_Decode.f ([] : List Int) (([wrap64 (-(ji4))] : List Int)) t178).bind fun bt192 => (if t179 = 0 then (if bt185.2 = 0 then (if bt192.2 = 0 then ((lapidaryref06_Same.f k bt192.1 (([(⟨wrap64 (-(ji4)),Int.tmod (wrap64 (a1)) (ji6)⟩ : S41)] : List (S41)))).bind fun t199 => (if t199 = true then ((lapidaryref00_Same.f t178 bt185.1).bind fun t200 => (if (t200 == ((Int.tmod (wrap64 (a1)) (ji6)) == (Int.tmod (wrap64 (a2)) (ji6)))) = true then ((lapidarylaw06_known.f k).bind fun t201 => (some t201)) else (some false))) else (some false))) else (some false)) else (some false)) else (some false)))) = some r:=H
   have A10:=aMx13 A100
   clear A100
   obtain ⟨y182,hy182⟩ : ∃ y_ : List (S41),y_ = (([(⟨wrap64 (-(ji4)),Int.tmod (wrap64 (a2)) (ji6)⟩ : S41)] : List (S41))):=⟨_,rfl⟩
   replace H : ((coder_Encode.f ([] : List Int) y182).bind fun bt185 => ((coder_Decode.f ([] : List Int) (([wrap64 (-(ji4))] : List Int)) t178).bind fun bt192 => (if t179 = 0 then (if bt185.2 = 0 then (if bt192.2 = 0 then ((lapidaryref06_Same.f k bt192.1 (([(⟨wrap64 (-(ji4)),Int.tmod (wrap64 (a1)) (ji6)⟩ : S41)] : List (S41)))).bind fun t199 => (if t199 = true then ((lapidaryref00_Same.f t178 bt185.1).bind fun t200 => (if (t200 == ((Int.tmod (wrap64 (a1)) (ji6)) == (Int.tmod (wrap64 (a2)) (ji6)))) = true then ((lapidarylaw06_known.f k).bind fun t201 => (some t201)) else (some false))) else (some false))) else (some false)) else (some false)) else (some false)))) = some r:=by first | (rw [hy182];with_reducible exact H) | (have H2_:=(Option.bind_some _ _).symm.trans H;rw [hy182];with_reducible exact H2_) | (have H2_:=(Option.bind_some _ _).symm.trans H;with_reducible exact H2_) | with_reducible exact H | (rw [hy182];exact H) | exact H
   have Ny182:=aMx13 hy182
   clear hy182
   replace H:=Option.bind_eq_some_iff.mp H
   obtain ⟨⟨t185,t186⟩,A110,H⟩:=H
   replace H : ((coder_Decode.f ([] : List Int) (([wrap64 (-(ji4))] : List Int)) t178).bind fun bt192 => (if t179 = 0 then (if t186 = 0 then (if bt192.2 = 0 then ((lapidaryref06_Same.f k bt192.1 (([(⟨wrap64 (-(ji4)),Int.tmod (wrap64 (a1)) (ji6)⟩ : S41)] : List (S41)))).bind fun t199 => (if t199 = true then ((lapidaryref00_Same.f t178 t185).bind fun t200 => (if (t200 == ((Int.tmod (wrap64 (a1)) (ji6)) == (Int.tmod (wrap64 (a2)) (ji6)))) = true then ((lapidarylaw06_known.f k).bind fun t201 => (some t201)) else (some false))) else (some false))) else (some false)) else (some false)) else (some false))) = some r:=H
   have A11:=aMx13 A110
   clear A110
   obtain ⟨y189,hy189⟩ : ∃ y_ : List Int,y_ = (([wrap64 (-(ji4))] : List Int)):=⟨_,rfl⟩
   replace H : ((coder_Decode.f ([] : List Int) y189 t178).bind fun bt192 => (if t179 = 0 then (if t186 = 0 then (if bt192.2 = 0 then ((lapidaryref06_Same.f k bt192.1 (([(⟨wrap64 (-(ji4)),Int.tmod (wrap64 (a1)) (ji6)⟩ : S41)] : List (S41)))).bind fun t199 => (if t199 = true then ((lapidaryref00_Same.f t178 t185).bind fun t200 => (if (t200 == ((Int.tmod (wrap64 (a1)) (ji6)) == (Int.tmod (wrap64 (a2)) (ji6)))) = true then ((lapidarylaw06_known.f k).bind fun t201 => (some t201)) else (some false))) else (some false))) else (some false)) else (some false)) else (some false))) = some r:=by first | (rw [hy189];with_reducible exact H) | (have H2_:=(Option.bind_some _ _).symm.trans H;rw [hy189];with_reducible exact H2_) | (have H2_:=(Option.bind_some _ _).symm.trans H;with_reducible exact H2_) | with_reducible exact H | (rw [hy189];exact H) | exact H
   have Ny189:=aMx13 hy189
   clear hy189
   replace H:=Option.bind_eq_some_iff.mp H
   obtain ⟨⟨t192,t193⟩,A120,H⟩:=H
   replace H : (if t179 = 0 then (if t186 = 0 then (if t193 = 0 then ((lapidaryref06_Same.f k t192 (([(⟨wrap64 (-(ji4)),Int.tmod (wrap64 (a1)) (ji6)⟩ : S41)] : List (S41)))).bind fun t199 => (if t199 = true then ((lapidaryref00_Same.f t178 t185).bind fun t200 => (if (t200 == ((Int.tmod (wrap64 (a1)) (ji6)) == (Int.tmod (wrap64 (a2)) (ji6)))) = true then ((lapidarylaw06_known.f k).bind fun t201 => (some t201)) else (some false))) else (some false))) else (some false)) else (some false)) else (some false)) = some r:=H
   have A12:=aMx13 A120
   clear A120
   by_cases c13 : t179 = 0
   ·rw [if_pos c13] at H
    have c13b0 : (t179 == 0) = true:=beq_iff_eq.mpr c13
    have c13b1 : (t179 != 0) = false:=bne_eq_false_iff_eq.mpr c13
    clear c13
    by_cases c14 : t186 = 0
    ·rw [if_pos c14] at H
     have c14b0 : (t186 == 0) = true:=beq_iff_eq.mpr c14
     have c14b1 : (t186 != 0) = false:=bne_eq_false_iff_eq.mpr c14
     clear c14
     by_cases c15 : t193 = 0
     ·rw [if_pos c15] at H
      have c15b0 : (t193 == 0) = true:=beq_iff_eq.mpr c15
      have c15b1 : (t193 != 0) = false:=bne_eq_false_iff_eq.mpr c15
      clear c15
      obtain ⟨y196,hy196⟩ : ∃ y_ : List (S41),y_ = (([(⟨wrap64 (-(ji4)),Int.tmod (wrap64 (a1)) (ji6)⟩ : S41)] : List (S41))):=⟨_,rfl⟩
      replace H : ((lapidaryref06_Same.f k t192 y196).bind fun t199 => (if t199 = true then ((lapidaryref00_Same.f t178 t185).bind fun t200 => (if (t200 == ((Int.tmod (wrap64 (a1)) (ji6)) == (Int.tmod (wrap64 (a2)) (ji6)))) = true then ((lapidarylaw06_known.f k).bind fun t201 => (some t201)) else (some false))) else (some false))) = some r:=by first | (rw [hy196];with_reducible exact H) | (have H2_:=(Option.bind_some _ _).symm.trans H;rw [hy196];with_reducible exact H2_) | (have H2_:=(Option.bind_some _ _).symm.trans H;with_reducible exact H2_) | with_reducible exact H | (rw [hy196];exact H) | exact H
      have Ny196:=aMx13 hy196
      clear hy196
      replace H:=Option.bind_eq_some_iff.mp H
      obtain ⟨t199,A160,H⟩:=H
      replace H : (if t199 = true then ((lapidaryref00_Same.f t178 t185).bind fun t200 => (if (t200 == ((Int.tmod (wrap64 (a1)) (ji6)) == (Int.tmod (wrap64 (a2)) (ji6)))) = true then ((lapidarylaw06_known.f k).bind fun t201 => (some t201)) else (some false))) else (some false)) = some r:=H
      have A16:=aMx13 A160
      clear A160
      by_cases c17 : t199 = true
      ·subst c17
       have H1 : ((lapidaryref00_Same.f t178 t185).bind fun t200 => (if (t200 == ((Int.tmod (wrap64 (a1)) (ji6)) == (Int.tmod (wrap64 (a2)) (ji6)))) = true then ((lapidarylaw06_known.f k).bind fun t201 => (some t201)) else (some false))) = some r:=by rw [if_pos rfl] at H;exact H
       clear H
       have H:=H1
       clear H1
       replace H:=Option.bind_eq_some_iff.mp H
       obtain ⟨t200,A180,H⟩:=H
       replace H : (if (t200 == ((Int.tmod (wrap64 (a1)) (ji6)) == (Int.tmod (wrap64 (a2)) (ji6)))) = true then ((lapidarylaw06_known.f k).bind fun t201 => (some t201)) else (some false)) = some r:=H
       have A18:=aMx13 A180
       clear A180
       by_cases c19 : (t200 == ((Int.tmod (wrap64 (a1)) (ji6)) == (Int.tmod (wrap64 (a2)) (ji6)))) = true
       ·rw [if_pos c19] at H
        have c19b0 : (t200 == ((Int.tmod (wrap64 (a1)) (ji6)) == (Int.tmod (wrap64 (a2)) (ji6)))) = true:=c19
        (try (have c19b1 : decide (t200 = ((Int.tmod (wrap64 (a1)) (ji6)) == (Int.tmod (wrap64 (a2)) (ji6)))) = true:=by simpa using c19))
        (try (have c19b2 : (t200 == ((Int.tmod (wrap64 (a1)) (ji6)) == (Int.tmod (wrap64 (a2)) (ji6)))) = true:=by simpa using c19))
        clear c19
        replace H:=Option.bind_eq_some_iff.mp H
        obtain ⟨t201,A200,H⟩:=H
        replace H : (some t201) = some r:=H
        have A20:=aMx13 A200
        clear A200
        obtain rfl:=Option.some.inj H
        go_enter Try.func8,Try.ntmps8
        try go_wp2_with (first|((with_reducible refine gate_dst (N:=8) rfl ?_);(try (refine gate_guard (by rfl) ?_;dsimp only));refine box_event ?hg (N:=8) ?hd (cs:=#[.int .i64 0,.int .i64 0]) (t:=41) ?hr ?_;(case hd => rfl);(case hg => rfl);(case hr => first|(go_simp;done)|(go_simp;rfl));intro gb173 hg w21 hbox hb;have n0_:=aMx13 (below_step (by repeat (with_reducible first|exact HB.out|apply below_alloc|apply pw_below_drewN|apply below_drew1)) hb);have n1_:=aMx13 (hbox);have n2_:=aMx13 ((by rw [hg];exact (below_size (by repeat (with_reducible first|exact HB.out|apply below_alloc|apply pw_below_drewN|apply below_drew1))) : w.heap.size ≤ gb173));have n3_:=aMx13 ((by rw [hg];exact (below_size (by repeat (with_reducible first|exact HB.out|apply below_alloc|apply pw_below_drewN|apply below_drew1))) : w.heap.size ≤ gb173));clear HB;have HB:=n0_;have BK173:=n1_;have GW173:=n2_;have GE173:=n3_;clear n0_ n1_ n2_ n3_;clear hb hbox hg;have hcz22_0 : w21.cell? ⟨gb173,0,none⟩ = some (.int .i64 0):=(blk_cell BK173.out 0).trans rfl;have hcz22_1 : w21.cell? ⟨gb173,1,none⟩ = some (.int .i64 0):=(blk_cell BK173.out 1).trans rfl;have hfz22_0:=blk_frozen BK173.out 0;have hfz22_1:=blk_frozen BK173.out 1)|((with_reducible refine gate_dst (N:=9) rfl ?_);(try (refine gate_guard (by rfl) ?_;dsimp only));refine box_event ?hg (N:=9) ?hd (cs:=#[.int .i64 0,.int .i64 0]) (t:=41) ?hr ?_;(case hd => rfl);(case hg => rfl);(case hr => first|(go_simp;done)|(go_simp;rfl));intro gb174 hg w23 hbox hb;have n0_:=aMx13 (blk_below (g:=gb173) (o:=.cells #[.int .i64 (wrap64 (-(ji4))),.int .i64 (Int.tmod (wrap64 (a1)) (ji6))] 41 (0,0)) (by (with_reducible repeat (first|refine blk_drewN ?_ _|refine blk_drew ?_|refine blk_alloc ?_ _));refine blk_put (cs:=#[.int .i64 (wrap64 (-(ji4))),.int .i64 0]) ?_ 1 _ rfl;(with_reducible repeat (first|refine blk_drewN ?_ _|refine blk_drew ?_|refine blk_alloc ?_ _));refine blk_put (cs:=#[.int .i64 0,.int .i64 0]) ?_ 0 _ rfl;(with_reducible repeat (first|refine blk_drewN ?_ _|refine blk_drew ?_|refine blk_alloc ?_ _));exact BK173.out) hb);have n1_:=aMx13 (below_step (by repeat (first|(with_reducible first|exact HB.out|apply below_alloc|apply pw_below_drewN|apply below_drew1|refine below_set ?_ GE173.out)|exact HB.out)) hb);have n2_:=aMx13 (hbox);have n3_:=aMx13 ((by rw [hg];exact (below_size (by repeat (first|(with_reducible first|exact HB.out|apply below_alloc|apply pw_below_drewN|apply below_drew1|refine below_set ?_ GE173.out)|exact HB.out))) : w.heap.size ≤ gb174));have n4_:=aMx13 ((by rw [hg];exact (below_size (by repeat (first|(with_reducible first|exact HB.out|apply below_alloc|apply pw_below_drewN|apply below_drew1|refine below_set ?_ GE173.out)|exact HB.out))) : w.heap.size ≤ gb174));have n5_:=aMx13 ((by rw [hg];exact Nat.ne_of_lt (blk_lt (g:=gb173) (o:=.cells #[.int .i64 (wrap64 (-(ji4))),.int .i64 (Int.tmod (wrap64 (a1)) (ji6))] 41 (0,0)) (by (with_reducible repeat (first|refine blk_drewN ?_ _|refine blk_drew ?_|refine blk_alloc ?_ _));refine blk_put (cs:=#[.int .i64 (wrap64 (-(ji4))),.int .i64 0]) ?_ 1 _ rfl;(with_reducible repeat (first|refine blk_drewN ?_ _|refine blk_drew ?_|refine blk_alloc ?_ _));refine blk_put (cs:=#[.int .i64 0,.int .i64 0]) ?_ 0 _ rfl;(with_reducible repeat (first|refine blk_drewN ?_ _|refine blk_drew ?_|refine blk_alloc ?_ _));exact BK173.out)) : gb173 ≠ gb174));have n6_:=aMx13 ((by rw [hg];exact Nat.ne_of_gt (blk_lt (g:=gb173) (o:=.cells #[.int .i64 (wrap64 (-(ji4))),.int .i64 (Int.tmod (wrap64 (a1)) (ji6))] 41 (0,0)) (by (with_reducible repeat (first|refine blk_drewN ?_ _|refine blk_drew ?_|refine blk_alloc ?_ _));refine blk_put (cs:=#[.int .i64 (wrap64 (-(ji4))),.int .i64 0]) ?_ 1 _ rfl;(with_reducible repeat (first|refine blk_drewN ?_ _|refine blk_drew ?_|refine blk_alloc ?_ _));refine blk_put (cs:=#[.int .i64 0,.int .i64 0]) ?_ 0 _ rfl;(with_reducible repeat (first|refine blk_drewN ?_ _|refine blk_drew ?_|refine blk_alloc ?_ _));exact BK173.out)) : gb174 ≠ gb173));clear BK173;clear HB;have BK173:=n0_;have HB:=n1_;have BK174:=n2_;have GW174:=n3_;have GE174:=n4_;have NB173_174:=n5_;have NB174_173:=n6_;clear n0_ n1_ n2_ n3_ n4_ n5_ n6_;clear hb hbox hg;have hnb24:=NB174_173.out;have hnc24:=NB173_174.out;have hcz25_0 : w23.cell? ⟨gb174,0,none⟩ = some (.int .i64 0):=(blk_cell BK174.out 0).trans rfl;have hcz25_1 : w23.cell? ⟨gb174,1,none⟩ = some (.int .i64 0):=(blk_cell BK174.out 1).trans rfl;have hfz25_0:=blk_frozen BK174.out 0;have hfz25_1:=blk_frozen BK174.out 1;have hcz26_0 : w23.cell? ⟨gb173,0,none⟩ = some (.int .i64 (wrap64 (-(ji4)))):=(blk_cell BK173.out 0).trans rfl;have hcz26_1 : w23.cell? ⟨gb173,1,none⟩ = some (.int .i64 (Int.tmod (wrap64 (a1)) (ji6))):=(blk_cell BK173.out 1).trans rfl;have hfz26_0:=blk_frozen BK173.out 0;have hfz26_1:=blk_frozen BK173.out 1)|((with_reducible refine gate_dst (N:=38) rfl ?_);(try (refine gate_guard (by rfl) ?_;dsimp only));refine Kd.R_lit k41 _ 41 ?hg (N:=38) ?hd (xs:=([(⟨wrap64 (-(ji4)),Int.tmod (wrap64 (a1)) (ji6)⟩ : S41)] : List (S41))) (inner:=[.int .i64 (wrap64 (-(ji4))),.int .i64 (Int.tmod (wrap64 (a1)) (ji6))]) (ok:=fun _ => True) (okp:=fun _ => True) ?hr ?hp (fun _ hk => hk) trivial (Below.refl _ _) (Nat.le_refl _) (by simp) ?_;(case hd => rfl);(case hg => rfl);(case hr => first|(go_simp;done)|(go_simp;rfl));(case hp => exact (Reps.c2 (show Kd.M k41 _ _ _ (⟨wrap64 (-(ji4)),Int.tmod (wrap64 (a1)) (ji6)⟩ : S41) [.int .i64 (wrap64 (-(ji4))),.int .i64 (Int.tmod (wrap64 (a1)) (ji6))] from (k41_mkM _ _ _ (⟨wrap64 (-(ji4)),Int.tmod (wrap64 (a1)) (ji6)⟩ : S41) )) (Reps.none _ _)));intro v176 w27 ho28 hb hg_ hnew_;clear hg_ hnew_;(first|rw [← Ny175.out] at ho28|(simp only [Int.reduceToNat] at ho28;rw [← Ny175.out] at ho28));have n0_:=aMx13 (Kd.R_lower (Kd.R_newB (Kd.R_newB ho28 (g:=gb173) (o:=.cells #[.int .i64 (wrap64 (-(ji4))),.int .i64 (Int.tmod (wrap64 (a1)) (ji6))] 41 (0,0)) (by (with_reducible repeat (first|refine blk_drewN ?_ _|refine blk_drew ?_|refine blk_alloc ?_ _));refine blk_far ?_ NB173_174.out _;(with_reducible repeat (first|refine blk_drewN ?_ _|refine blk_drew ?_|refine blk_alloc ?_ _));refine blk_far ?_ NB173_174.out _;(with_reducible repeat (first|refine blk_drewN ?_ _|refine blk_drew ?_|refine blk_alloc ?_ _));exact BK173.out)) (g:=gb174) (o:=.cells #[.int .i64 (wrap64 (-(ji4))),.int .i64 (Int.tmod (wrap64 (a2)) (ji6))] 41 (0,0)) (by (with_reducible repeat (first|refine blk_drewN ?_ _|refine blk_drew ?_|refine blk_alloc ?_ _));refine blk_put (cs:=#[.int .i64 (wrap64 (-(ji4))),.int .i64 0]) ?_ 1 _ rfl;(with_reducible repeat (first|refine blk_drewN ?_ _|refine blk_drew ?_|refine blk_alloc ?_ _));refine blk_put (cs:=#[.int .i64 0,.int .i64 0]) ?_ 0 _ rfl;(with_reducible repeat (first|refine blk_drewN ?_ _|refine blk_drew ?_|refine blk_alloc ?_ _));exact BK174.out)) (below_size (by repeat (first|(with_reducible first|exact HB.out|apply below_alloc|apply pw_below_drewN|apply below_drew1|refine below_set ?_ GE173.out|refine below_set ?_ GE174.out)|exact HB.out))));have n1_:=aMx13 (blk_below (g:=gb173) (o:=.cells #[.int .i64 (wrap64 (-(ji4))),.int .i64 (Int.tmod (wrap64 (a1)) (ji6))] 41 (0,0)) (by (with_reducible repeat (first|refine blk_drewN ?_ _|refine blk_drew ?_|refine blk_alloc ?_ _));refine blk_far ?_ NB173_174.out _;(with_reducible repeat (first|refine blk_drewN ?_ _|refine blk_drew ?_|refine blk_alloc ?_ _));refine blk_far ?_ NB173_174.out _;(with_reducible repeat (first|refine blk_drewN ?_ _|refine blk_drew ?_|refine blk_alloc ?_ _));exact BK173.out) hb);have n2_:=aMx13 (blk_below (g:=gb174) (o:=.cells #[.int .i64 (wrap64 (-(ji4))),.int .i64 (Int.tmod (wrap64 (a2)) (ji6))] 41 (0,0)) (by (with_reducible repeat (first|refine blk_drewN ?_ _|refine blk_drew ?_|refine blk_alloc ?_ _));refine blk_put (cs:=#[.int .i64 (wrap64 (-(ji4))),.int .i64 0]) ?_ 1 _ rfl;(with_reducible repeat (first|refine blk_drewN ?_ _|refine blk_drew ?_|refine blk_alloc ?_ _));refine blk_put (cs:=#[.int .i64 0,.int .i64 0]) ?_ 0 _ rfl;(with_reducible repeat (first|refine blk_drewN ?_ _|refine blk_drew ?_|refine blk_alloc ?_ _));exact BK174.out) hb);have n3_:=aMx13 (below_step (by repeat (first|(with_reducible first|exact HB.out|apply below_alloc|apply pw_below_drewN|apply below_drew1|refine below_set ?_ GE173.out|refine below_set ?_ GE174.out)|exact HB.out)) hb);clear BK173;clear BK174;clear HB;have HO177:=n0_;have BK173:=n1_;have BK174:=n2_;have HB:=n3_;clear n0_ n1_ n2_ n3_;clear hb ho28;obtain ⟨Ao29,co29,eo29⟩:=Kd.R_slice HO177.out;subst eo29)|((with_reducible refine gate_callee (f:=12) rfl ?_);refine goesL_ (some 39) rfl rfl Try.func12 (by kernel_rfl) rfl #[.slice none 0 0,.slice Ao29 y175.length co29] rfl (by (try simp only [List.map_toArray,List.map_cons,List.map_nil]);first|done|rfl|(simp only [List.length_drop,List.length_take];rfl)) ?_;(refine (coder_Encode.calls _ _ ([] : List Int) _ _ y175 t178 t179 _ ?side1 ?side2 ?side3 ?side4 A10.out).mono ?_);(case side1 => exact Kd.C_nil _ _);(case side2 => exact Nat.le_refl _);(case side3 => repeat (first|exact (Kd.R_reads' HO177.out).2.2|(with_reducible first|refine Kd.C_alloc ?_ _|refine Kd.C_drewN ?_ _|refine Kd.C_drew ?_)));(case side4 => exact (Kd.R_reads' HO177.out).2.1);rintro e w30 ⟨v180,rfl,ho0,hb⟩;refine ⟨_,rfl,?_⟩;have n0_:=aMx13 (Kd.R_below (by (with_reducible repeat (first|apply Kd.R_alloc|apply Kd.R_drewN|apply Kd.R_drew));exact HO177.out) hb);have n1_:=aMx13 (Kd.R_lower ho0 (below_size (by repeat (first|(with_reducible first|exact HB.out|apply below_alloc|apply pw_below_drewN|apply below_drew1|refine below_set ?_ GE173.out|refine below_set ?_ GE174.out)|exact HB.out))));have n2_:=aMx13 (blk_below (g:=gb173) (o:=.cells #[.int .i64 (wrap64 (-(ji4))),.int .i64 (Int.tmod (wrap64 (a1)) (ji6))] 41 (0,0)) (by (with_reducible repeat (first|refine blk_drewN ?_ _|refine blk_drew ?_|refine blk_alloc ?_ _));exact BK173.out) hb);have n3_:=aMx13 (blk_below (g:=gb174) (o:=.cells #[.int .i64 (wrap64 (-(ji4))),.int .i64 (Int.tmod (wrap64 (a2)) (ji6))] 41 (0,0)) (by (with_reducible repeat (first|refine blk_drewN ?_ _|refine blk_drew ?_|refine blk_alloc ?_ _));exact BK174.out) hb);have n4_:=aMx13 (below_step (by repeat (first|(with_reducible first|exact HB.out|apply below_alloc|apply pw_below_drewN|apply below_drew1|refine below_set ?_ GE173.out|refine below_set ?_ GE174.out)|exact HB.out)) hb);clear HO177;clear BK173;clear BK174;clear HB;have HO177:=n0_;have HO181:=n1_;have BK173:=n2_;have BK174:=n3_;have HB:=n4_;clear n0_ n1_ n2_ n3_ n4_;(try clear hb);(try clear hb2);(try clear hk);(try clear hi);(try clear ho0);have hcz31_0 : w30.cell? ⟨gb174,0,none⟩ = some (.int .i64 (wrap64 (-(ji4)))):=(blk_cell BK174.out 0).trans rfl;have hcz31_1 : w30.cell? ⟨gb174,1,none⟩ = some (.int .i64 (Int.tmod (wrap64 (a2)) (ji6))):=(blk_cell BK174.out 1).trans rfl;have hfz31_0:=blk_frozen BK174.out 0;have hfz31_1:=blk_frozen BK174.out 1)|((with_reducible refine gate_dst (N:=44) rfl ?_);(try (refine gate_guard (by rfl) ?_;dsimp only));refine Kd.R_lit k41 _ 41 ?hg (N:=44) ?hd (xs:=([(⟨wrap64 (-(ji4)),Int.tmod (wrap64 (a2)) (ji6)⟩ : S41)] : List (S41))) (inner:=[.int .i64 (wrap64 (-(ji4))),.int .i64 (Int.tmod (wrap64 (a2)) (ji6))]) (ok:=fun _ => True) (okp:=fun _ => True) ?hr ?hp (fun _ hk => hk) trivial (Below.refl _ _) (Nat.le_refl _) (by simp) ?_;(case hd => rfl);(case hg => rfl);(case hr => first|(go_simp;done)|(go_simp;rfl));(case hp => exact (Reps.c2 (show Kd.M k41 _ _ _ (⟨wrap64 (-(ji4)),Int.tmod (wrap64 (a2)) (ji6)⟩ : S41) [.int .i64 (wrap64 (-(ji4))),.int .i64 (Int.tmod (wrap64 (a2)) (ji6))] from (k41_mkM _ _ _ (⟨wrap64 (-(ji4)),Int.tmod (wrap64 (a2)) (ji6)⟩ : S41) )) (Reps.none _ _)));intro v183 w32 ho33 hb hg_ hnew_;clear hg_ hnew_;(first|rw [← Ny182.out] at ho33|(simp only [Int.reduceToNat] at ho33;rw [← Ny182.out] at ho33));have n0_:=aMx13 (Kd.R_elder' (by (with_reducible repeat (first|apply Kd.R_alloc|apply Kd.R_drewN|apply Kd.R_drew));exact HO177.out) (Kd.R_base ho33) hb);have n1_:=aMx13 (Kd.R_below (by (with_reducible repeat (first|apply Kd.R_alloc|apply Kd.R_drewN|apply Kd.R_drew));exact HO181.out) hb);have n2_:=aMx13 (Kd.R_lower (Kd.R_newB (Kd.R_newB (Kd.R_new' ho33 (Kd.R_lt (by (with_reducible repeat (first|apply Kd.R_alloc|apply Kd.R_drewN|apply Kd.R_drew));exact HO177.out))) (g:=gb173) (o:=.cells #[.int .i64 (wrap64 (-(ji4))),.int .i64 (Int.tmod (wrap64 (a1)) (ji6))] 41 (0,0)) (by (with_reducible repeat (first|refine blk_drewN ?_ _|refine blk_drew ?_|refine blk_alloc ?_ _));exact BK173.out)) (g:=gb174) (o:=.cells #[.int .i64 (wrap64 (-(ji4))),.int .i64 (Int.tmod (wrap64 (a2)) (ji6))] 41 (0,0)) (by (with_reducible repeat (first|refine blk_drewN ?_ _|refine blk_drew ?_|refine blk_alloc ?_ _));exact BK174.out)) (below_size (by repeat (first|(with_reducible first|exact HB.out|apply below_alloc|apply pw_below_drewN|apply below_drew1|refine below_set ?_ GE173.out|refine below_set ?_ GE174.out)|exact HB.out))));have n3_:=aMx13 (blk_below (g:=gb173) (o:=.cells #[.int .i64 (wrap64 (-(ji4))),.int .i64 (Int.tmod (wrap64 (a1)) (ji6))] 41 (0,0)) (by (with_reducible repeat (first|refine blk_drewN ?_ _|refine blk_drew ?_|refine blk_alloc ?_ _));exact BK173.out) hb);have n4_:=aMx13 (blk_below (g:=gb174) (o:=.cells #[.int .i64 (wrap64 (-(ji4))),.int .i64 (Int.tmod (wrap64 (a2)) (ji6))] 41 (0,0)) (by (with_reducible repeat (first|refine blk_drewN ?_ _|refine blk_drew ?_|refine blk_alloc ?_ _));exact BK174.out) hb);have n5_:=aMx13 (below_step (by repeat (first|(with_reducible first|exact HB.out|apply below_alloc|apply pw_below_drewN|apply below_drew1|refine below_set ?_ GE173.out|refine below_set ?_ GE174.out)|exact HB.out)) hb);clear HO177;clear HO181;clear BK173;clear BK174;clear HB;have HO177:=n0_;have HO181:=n1_;have HO184:=n2_;have BK173:=n3_;have BK174:=n4_;have HB:=n5_;clear n0_ n1_ n2_ n3_ n4_ n5_;clear hb ho33;obtain ⟨Ao34,co34,eo34⟩:=Kd.R_slice HO184.out;subst eo34)|((with_reducible refine gate_callee (f:=12) rfl ?_);refine goesL_ (some 45) rfl rfl Try.func12 (by kernel_rfl) rfl #[.slice none 0 0,.slice Ao34 y182.length co34] rfl (by (try simp only [List.map_toArray,List.map_cons,List.map_nil]);first|done|rfl|(simp only [List.length_drop,List.length_take];rfl)) ?_;(refine (coder_Encode.calls _ _ ([] : List Int) _ _ y182 t185 t186 _ ?side1 ?side2 ?side3 ?side4 A11.out).mono ?_);(case side1 => exact Kd.C_nil _ _);(case side2 => exact Nat.le_refl _);(case side3 => repeat (first|exact (Kd.R_reads' HO184.out).2.2|(with_reducible first|refine Kd.C_alloc ?_ _|refine Kd.C_drewN ?_ _|refine Kd.C_drew ?_)));(case side4 => exact (Kd.R_reads' HO184.out).2.1);rintro e w35 ⟨v187,rfl,ho0,hb⟩;refine ⟨_,rfl,?_⟩;have n0_:=aMx13 (Kd.R_below (by (with_reducible repeat (first|apply Kd.R_alloc|apply Kd.R_drewN|apply Kd.R_drew));exact HO177.out) hb);have n1_:=aMx13 (Kd.R_elder' (by (with_reducible repeat (first|apply Kd.R_alloc|apply Kd.R_drewN|apply Kd.R_drew));exact HO181.out) (Kd.R_base ho0) hb);have n2_:=aMx13 (Kd.R_below (by (with_reducible repeat (first|apply Kd.R_alloc|apply Kd.R_drewN|apply Kd.R_drew));exact HO184.out) hb);have n3_:=aMx13 (Kd.R_lower (Kd.R_new' ho0 (Kd.R_lt (by (with_reducible repeat (first|apply Kd.R_alloc|apply Kd.R_drewN|apply Kd.R_drew));exact HO181.out))) (below_size (by repeat (first|(with_reducible first|exact HB.out|apply below_alloc|apply pw_below_drewN|apply below_drew1|refine below_set ?_ GE173.out|refine below_set ?_ GE174.out)|exact HB.out))));have n4_:=aMx13 (blk_below (g:=gb173) (o:=.cells #[.int .i64 (wrap64 (-(ji4))),.int .i64 (Int.tmod (wrap64 (a1)) (ji6))] 41 (0,0)) (by (with_reducible repeat (first|refine blk_drewN ?_ _|refine blk_drew ?_|refine blk_alloc ?_ _));exact BK173.out) hb);have n5_:=aMx13 (blk_below (g:=gb174) (o:=.cells #[.int .i64 (wrap64 (-(ji4))),.int .i64 (Int.tmod (wrap64 (a2)) (ji6))] 41 (0,0)) (by (with_reducible repeat (first|refine blk_drewN ?_ _|refine blk_drew ?_|refine blk_alloc ?_ _));exact BK174.out) hb);have n6_:=aMx13 (below_step (by repeat (first|(with_reducible first|exact HB.out|apply below_alloc|apply pw_below_drewN|apply below_drew1|refine below_set ?_ GE173.out|refine below_set ?_ GE174.out)|exact HB.out)) hb);clear HO177;clear HO181;clear HO184;clear BK173;clear BK174;clear HB;have HO177:=n0_;have HO181:=n1_;have HO184:=n2_;have HO188:=n3_;have BK173:=n4_;have BK174:=n5_;have HB:=n6_;clear n0_ n1_ n2_ n3_ n4_ n5_ n6_;(try clear hb);(try clear hb2);(try clear hk);(try clear hi);(try clear ho0))|((with_reducible refine gate_dst (N:=51) rfl ?_);(try (refine gate_guard (by rfl) ?_;dsimp only));refine Kd.R_lit (Kd.int .i64) _ 3 ?hg (N:=51) ?hd (xs:=([wrap64 (-(ji4))] : List Int)) (inner:=[.int .i64 (wrap64 (-(ji4)))]) (ok:=fun _ => True) (okp:=fun _ => True) ?hr ?hp (fun _ hk => hk) trivial (Below.refl _ _) (Nat.le_refl _) (by simp) ?_;(case hd => rfl);(case hg => rfl);(case hr => first|(go_simp;done)|(go_simp;rfl));(case hp => exact (Reps.one (show Kd.M (Kd.int .i64) _ _ _ (wrap64 (-(ji4))) [.int .i64 (wrap64 (-(ji4)))] from rfl) (Reps.none _ _)));intro v190 w36 ho37 hb hg_ hnew_;clear hg_ hnew_;(first|rw [← Ny189.out] at ho37|(simp only [Int.reduceToNat] at ho37;rw [← Ny189.out] at ho37));have n0_:=aMx13 (Kd.R_below (by (with_reducible repeat (first|apply Kd.R_alloc|apply Kd.R_drewN|apply Kd.R_drew));exact HO177.out) hb);have n1_:=aMx13 (Kd.R_below (by (with_reducible repeat (first|apply Kd.R_alloc|apply Kd.R_drewN|apply Kd.R_drew));exact HO181.out) hb);have n2_:=aMx13 (Kd.R_below (by (with_reducible repeat (first|apply Kd.R_alloc|apply Kd.R_drewN|apply Kd.R_drew));exact HO184.out) hb);have n3_:=aMx13 (Kd.R_below (by (with_reducible repeat (first|apply Kd.R_alloc|apply Kd.R_drewN|apply Kd.R_drew));exact HO188.out) hb);have n4_:=aMx13 (Kd.R_lower ho37 (below_size (by repeat (first|(with_reducible first|exact HB.out|apply below_alloc|apply pw_below_drewN|apply below_drew1|refine below_set ?_ GE173.out|refine below_set ?_ GE174.out)|exact HB.out))));have n5_:=aMx13 (blk_below (g:=gb173) (o:=.cells #[.int .i64 (wrap64 (-(ji4))),.int .i64 (Int.tmod (wrap64 (a1)) (ji6))] 41 (0,0)) (by (with_reducible repeat (first|refine blk_drewN ?_ _|refine blk_drew ?_|refine blk_alloc ?_ _));exact BK173.out) hb);have n6_:=aMx13 (blk_below (g:=gb174) (o:=.cells #[.int .i64 (wrap64 (-(ji4))),.int .i64 (Int.tmod (wrap64 (a2)) (ji6))] 41 (0,0)) (by (with_reducible repeat (first|refine blk_drewN ?_ _|refine blk_drew ?_|refine blk_alloc ?_ _));exact BK174.out) hb);have n7_:=aMx13 (below_step (by repeat (first|(with_reducible first|exact HB.out|apply below_alloc|apply pw_below_drewN|apply below_drew1|refine below_set ?_ GE173.out|refine below_set ?_ GE174.out)|exact HB.out)) hb);clear HO177;clear HO181;clear HO184;clear HO188;clear BK173;clear BK174;clear HB;have HO177:=n0_;have HO181:=n1_;have HO184:=n2_;have HO188:=n3_;have HO191:=n4_;have BK173:=n5_;have BK174:=n6_;have HB:=n7_;clear n0_ n1_ n2_ n3_ n4_ n5_ n6_ n7_;clear hb ho37;obtain ⟨Ao38,co38,eo38⟩:=Kd.R_slice HO191.out;subst eo38;obtain ⟨Ao39,co39,eo39⟩:=Kd.R_slice HO181.out;subst eo39)|((with_reducible refine gate_callee (f:=15) rfl ?_);refine goesL_ (some 53) rfl rfl Try.func15 (by kernel_rfl) rfl #[.slice none 0 0,.slice Ao38 y189.length co38,.slice Ao39 t178.length co39] rfl (by (try simp only [List.map_toArray,List.map_cons,List.map_nil]);first|done|rfl|(simp only [List.length_drop,List.length_take];rfl)) ?_;(refine (coder_Decode.calls _ _ ([] : List Int) _ _ y189 _ _ t178 t192 t193 _ ?side1 ?side2 ?side3 ?side4 ?side5 ?side6 A12.out).mono ?_);(case side1 => exact Kd.C_nil _ _);(case side2 => exact Nat.le_refl _);(case side3 => repeat (first|exact (Kd.R_reads' HO191.out).2.2|(with_reducible first|refine Kd.C_alloc ?_ _|refine Kd.C_drewN ?_ _|refine Kd.C_drew ?_)));(case side4 => exact (Kd.R_reads' HO191.out).2.1);(case side5 => repeat (first|exact (Kd.R_reads' HO181.out).2.2|(with_reducible first|refine Kd.C_alloc ?_ _|refine Kd.C_drewN ?_ _|refine Kd.C_drew ?_)));(case side6 => exact (Kd.R_reads' HO181.out).2.1);rintro e w40 ⟨v194,rfl,ho0,hb⟩;refine ⟨_,rfl,?_⟩;have n0_:=aMx13 (Kd.R_elder' (by (with_reducible repeat (first|apply Kd.R_alloc|apply Kd.R_drewN|apply Kd.R_drew));exact HO177.out) (Kd.R_base ho0) hb);have n1_:=aMx13 (Kd.R_below (by (with_reducible repeat (first|apply Kd.R_alloc|apply Kd.R_drewN|apply Kd.R_drew));exact HO181.out) hb);have n2_:=aMx13 (Kd.R_elder' (by (with_reducible repeat (first|apply Kd.R_alloc|apply Kd.R_drewN|apply Kd.R_drew));exact HO184.out) (Kd.R_base ho0) hb);have n3_:=aMx13 (Kd.R_below (by (with_reducible repeat (first|apply Kd.R_alloc|apply Kd.R_drewN|apply Kd.R_drew));exact HO188.out) hb);have n4_:=aMx13 (Kd.R_below (by (with_reducible repeat (first|apply Kd.R_alloc|apply Kd.R_drewN|apply Kd.R_drew));exact HO191.out) hb);have n5_:=aMx13 (Kd.R_lower (Kd.R_newB (Kd.R_newB (Kd.R_new' (Kd.R_new' ho0 (Kd.R_lt (by (with_reducible repeat (first|apply Kd.R_alloc|apply Kd.R_drewN|apply Kd.R_drew));exact HO177.out))) (Kd.R_lt (by (with_reducible repeat (first|apply Kd.R_alloc|apply Kd.R_drewN|apply Kd.R_drew));exact HO184.out))) (g:=gb173) (o:=.cells #[.int .i64 (wrap64 (-(ji4))),.int .i64 (Int.tmod (wrap64 (a1)) (ji6))] 41 (0,0)) (by (with_reducible repeat (first|refine blk_drewN ?_ _|refine blk_drew ?_|refine blk_alloc ?_ _));exact BK173.out)) (g:=gb174) (o:=.cells #[.int .i64 (wrap64 (-(ji4))),.int .i64 (Int.tmod (wrap64 (a2)) (ji6))] 41 (0,0)) (by (with_reducible repeat (first|refine blk_drewN ?_ _|refine blk_drew ?_|refine blk_alloc ?_ _));exact BK174.out)) (below_size (by repeat (first|(with_reducible first|exact HB.out|apply below_alloc|apply pw_below_drewN|apply below_drew1|refine below_set ?_ GE173.out|refine below_set ?_ GE174.out)|exact HB.out))));have n6_:=aMx13 (blk_below (g:=gb173) (o:=.cells #[.int .i64 (wrap64 (-(ji4))),.int .i64 (Int.tmod (wrap64 (a1)) (ji6))] 41 (0,0)) (by (with_reducible repeat (first|refine blk_drewN ?_ _|refine blk_drew ?_|refine blk_alloc ?_ _));exact BK173.out) hb);have n7_:=aMx13 (blk_below (g:=gb174) (o:=.cells #[.int .i64 (wrap64 (-(ji4))),.int .i64 (Int.tmod (wrap64 (a2)) (ji6))] 41 (0,0)) (by (with_reducible repeat (first|refine blk_drewN ?_ _|refine blk_drew ?_|refine blk_alloc ?_ _));exact BK174.out) hb);have n8_:=aMx13 (below_step (by repeat (first|(with_reducible first|exact HB.out|apply below_alloc|apply pw_below_drewN|apply below_drew1|refine below_set ?_ GE173.out|refine below_set ?_ GE174.out)|exact HB.out)) hb);clear HO177;clear HO181;clear HO184;clear HO188;clear HO191;clear BK173;clear BK174;clear HB;have HO177:=n0_;have HO181:=n1_;have HO184:=n2_;have HO188:=n3_;have HO191:=n4_;have HO195:=n5_;have BK173:=n6_;have BK174:=n7_;have HB:=n8_;clear n0_ n1_ n2_ n3_ n4_ n5_ n6_ n7_ n8_;(try clear hb);(try clear hb2);(try clear hk);(try clear hi);(try clear ho0)))
        have n0_:=aMx13 (Kd.R_drew HO177.out)
        have n1_:=aMx13 (Kd.R_drew HO181.out)
        have n2_:=aMx13 (Kd.R_drew HO184.out)
        have n3_:=aMx13 (Kd.R_drew HO188.out)
        have n4_:=aMx13 (Kd.R_drew HO191.out)
        have n5_:=aMx13 (Kd.R_drew HO195.out)
        have n6_:=aMx13 (blk_drew BK173.out)
        have n7_:=aMx13 (blk_drew BK174.out)
        have n8_:=aMx13 (below_drew1 HB.out)
        clear HO177
        clear HO181
        clear HO184
        clear HO188
        clear HO191
        clear HO195
        clear BK173
        clear BK174
        clear HB
        have HO177:=n0_
        have HO181:=n1_
        have HO184:=n2_
        have HO188:=n3_
        have HO191:=n4_
        have HO195:=n5_
        have BK173:=n6_
        have BK174:=n7_
        have HB:=n8_
        clear n0_ n1_ n2_ n3_ n4_ n5_ n6_ n7_ n8_
        refine start_ (n:=29) (S:=fun w' => w'.cell? ⟨gb173,0,none⟩ = some (.int .i64 (wrap64 (-(ji4)))) ∧ w'.cell? ⟨gb173,1,none⟩ = some (.int .i64 (Int.tmod (wrap64 (a1)) (ji6))) ∧ w'.cell? ⟨gb174,0,none⟩ = some (.int .i64 (wrap64 (-(ji4)))) ∧ w'.cell? ⟨gb174,1,none⟩ = some (.int .i64 (Int.tmod (wrap64 (a2)) (ji6)))) (ds:=[]) #[false,false,false,false,false,false,false,false,false,false,false,false,false,false,false,false,false,false,false,false,false,false,false,false,false,false,false,false,false] (by kernel_rfl) rfl rfl ⟨(blk_cell BK173.out 0).trans rfl,(blk_cell BK173.out 1).trans rfl,(blk_cell BK174.out 0).trans rfl,(blk_cell BK174.out 1).trans rfl⟩ (fun hHeld => ?_);refine with_tabW lapidarylaw06_CoderPlain.tab7 lapidarylaw06_CoderPlain.bits7 (fun HT_ HW_ => ?_)
        generalize w40.drew = w41 at HO177 HO181 HO184 HO188 HO191 HO195 BK173 BK174 HB hHeld ⊢
        refine pure_ (i:=0) (N:=some 56) (v:=?_) (a':=?_) #[true,false,false,false,false,false,false,false,false,false,false,false,false,false,false,false,false,false,false,false,false,false,false,false,false,false,false,false,false] rfl rfl (any_of HT_.out (by kernel_rfl)) (fun _ _ _ h => h) (Or.inl ⟨by rfl,?_⟩) ?_ ?_
        rotate_left
        ·intro w'
         go_simp
         with_reducible rfl
        rotate_left
        ·simp only [Act.put,sAx13,sBx13,sCx13,i64_w,i32_w]
         rfl
        refine pure_ (i:=1) (N:=some 57) (v:=?_) (a':=?_) #[true,true,false,false,false,false,false,false,false,false,false,false,false,false,false,false,false,false,false,false,false,false,false,false,false,false,false,false,false] rfl rfl (any_of HT_.out (by kernel_rfl)) (fun _ _ _ h => h) (Or.inl ⟨by rfl,?_⟩) ?_ ?_
        rotate_left
        ·intro w'
         go_simp
         with_reducible rfl
        rotate_left
        ·simp only [Act.put,sAx13,sBx13,sCx13,i64_w,i32_w]
         rfl
        refine pure_ (i:=2) (N:=some 58) (v:=?_) (a':=?_) #[true,true,true,false,false,false,false,false,false,false,false,false,false,false,false,false,false,false,false,false,false,false,false,false,false,false,false,false,false] rfl rfl (any_of HT_.out (by kernel_rfl)) (fun _ _ _ h => h) (Or.inl ⟨by rfl,?_⟩) ?_ ?_
        rotate_left
        ·intro w'
         go_simp
         with_reducible rfl
        rotate_left
        ·simp only [Act.put,sAx13,sBx13,sCx13,i64_w,i32_w]
         rfl
        refine pure_ (i:=3) (N:=some 59) (v:=?_) (a':=?_) #[true,true,true,true,false,false,false,false,false,false,false,false,false,false,false,false,false,false,false,false,false,false,false,false,false,false,false,false,false] rfl rfl (any_of HT_.out (by kernel_rfl)) (fun _ _ _ h => h) (Or.inl ⟨by rfl,?_⟩) ?_ ?_
        rotate_left
        ·intro w'
         go_simp
         with_reducible rfl
        rotate_left
        ·simp only [Act.put,sAx13,sBx13,sCx13,i64_w,i32_w]
         rfl
        refine pure_ (i:=4) (N:=some 60) (v:=?_) (a':=?_) #[true,true,true,true,true,false,false,false,false,false,false,false,false,false,false,false,false,false,false,false,false,false,false,false,false,false,false,false,false] rfl rfl (any_of HT_.out (by kernel_rfl)) (fun _ _ _ h => h) (Or.inl ⟨by rfl,?_⟩) ?_ ?_
        rotate_left
        ·intro w'
         go_simp
         with_reducible rfl
        rotate_left
        ·simp only [Act.put,sAx13,sBx13,sCx13,i64_w,i32_w]
         rfl
        refine pure_ (i:=5) (N:=some 61) (v:=?_) (a':=?_) #[true,true,true,true,true,true,false,false,false,false,false,false,false,false,false,false,false,false,false,false,false,false,false,false,false,false,false,false,false] rfl rfl (any_of HT_.out (by kernel_rfl)) (fun _ _ _ h => h) (Or.inl ⟨by rfl,?_⟩) ?_ ?_
        rotate_left
        ·intro w'
         go_simp
         with_reducible rfl
        rotate_left
        ·simp only [Act.put,sAx13,sBx13,sCx13,i64_w,i32_w]
         rfl
        refine pure_ (i:=6) (N:=some 62) (v:=?_) (a':=?_) #[true,true,true,true,true,true,true,false,false,false,false,false,false,false,false,false,false,false,false,false,false,false,false,false,false,false,false,false,false] rfl rfl (any_of HT_.out (by kernel_rfl)) (fun _ _ _ h => h) (Or.inl ⟨by rfl,?_⟩) ?_ ?_
        rotate_left
        ·intro w'
         go_simp
         with_reducible rfl
        rotate_left
        ·simp only [Act.put,sAx13,sBx13,sCx13,i64_w,i32_w]
         rfl
        refine pure_ (i:=7) (N:=some 63) (v:=?_) (a':=?_) #[true,true,true,true,true,true,true,true,false,false,false,false,false,false,false,false,false,false,false,false,false,false,false,false,false,false,false,false,false] rfl rfl (any_of HT_.out (by kernel_rfl)) (fun _ _ _ h => h) (Or.inl ⟨by rfl,?_⟩) ?_ ?_
        rotate_left
        ·intro w'
         go_simp
         with_reducible rfl
        rotate_left
        ·simp only [Act.put,sAx13,sBx13,sCx13,i64_w,i32_w]
         rfl
        refine pure_ (i:=8) (N:=some 64) (v:=?_) (a':=?_) #[true,true,true,true,true,true,true,true,true,false,false,false,false,false,false,false,false,false,false,false,false,false,false,false,false,false,false,false,false] rfl rfl (any_of HT_.out (by kernel_rfl)) (fun _ _ _ h => h) (Or.inl ⟨by rfl,?_⟩) ?_ ?_
        rotate_left
        ·intro w'
         go_simp
         with_reducible rfl
        rotate_left
        ·simp only [Act.put,sAx13,sBx13,sCx13,i64_w,i32_w]
         rfl
        refine pure_ (i:=9) (N:=some 65) (v:=?_) (a':=?_) #[true,true,true,true,true,true,true,true,true,true,false,false,false,false,false,false,false,false,false,false,false,false,false,false,false,false,false,false,false] rfl rfl (any_of HT_.out (by kernel_rfl)) (fun _ _ _ h => h) (Or.inl ⟨by rfl,?_⟩) ?_ ?_
        rotate_left
        ·intro w'
         go_simp
         with_reducible rfl
        rotate_left
        ·simp only [Act.put,sAx13,sBx13,sCx13,i64_w,i32_w]
         rfl
        refine pure_ (i:=10) (N:=some 66) (v:=?_) (a':=?_) #[true,true,true,true,true,true,true,true,true,true,true,false,false,false,false,false,false,false,false,false,false,false,false,false,false,false,false,false,false] rfl rfl (any_of HT_.out (by kernel_rfl)) (fun _ _ _ h => h) (Or.inl ⟨by rfl,?_⟩) ?_ ?_
        rotate_left
        ·intro w'
         go_simp
         with_reducible rfl
        rotate_left
        ·simp only [Act.put,sAx13,sBx13,sCx13,i64_w,i32_w]
         rfl
        refine pure_ (i:=11) (N:=some 67) (v:=?_) (a':=?_) #[true,true,true,true,true,true,true,true,true,true,true,true,false,false,false,false,false,false,false,false,false,false,false,false,false,false,false,false,false] rfl rfl (any_of HT_.out (by kernel_rfl)) (fun _ _ _ h => h) (Or.inl ⟨by rfl,?_⟩) ?_ ?_
        rotate_left
        ·intro w'
         go_simp
         with_reducible rfl
        rotate_left
        ·simp only [Act.put,sAx13,sBx13,sCx13,i64_w,i32_w]
         rfl
        refine take_ (i:=12) (N:=some 68) (v:=?_) (a':=?_) #[true,true,true,true,true,true,true,true,true,true,true,true,true,false,false,false,false,false,false,false,false,false,false,false,false,false,false,false,false] rfl rfl (take_ofW HT_.out HW_.out (by kernel_rfl)) (fun _ _ _ h => h) (Or.inl ⟨by rfl,?_⟩) hHeld ?_ ?_
        rotate_left
        ·rintro w' ⟨s0,s1,s2,s3⟩
         go_simp
         with_reducible rfl
        rotate_left
        ·simp only [Act.put,sAx13,sBx13,sCx13,i64_w,i32_w]
         rfl
        refine one_ (i:=13) (N:=some 69) #[true,true,true,true,true,true,true,true,true,true,true,true,true,true,false,false,false,false,false,false,false,false,false,false,false,false,false,false,false] rfl rfl (one_of HT_.out (by kernel_rfl)) (by decide) (fun K hK => ?_)
        refine Kd.R_lit_step k41 _ 41 ?hg (N:=69) ?hd (xs:=([(⟨wrap64 (-(ji4)),Int.tmod (wrap64 (a1)) (ji6)⟩ : S41)] : List (S41))) (inner:=[.int .i64 (wrap64 (-(ji4))),.int .i64 (Int.tmod (wrap64 (a1)) (ji6))]) (ok:=fun _ => True) (okp:=fun _ => True) ?hr ?hp (fun _ hk => hk) trivial (Below.refl _ _) (Nat.le_refl _) (by simp) ?_;(case hd => rfl);(case hg => rfl);(case hr => first | (go_simp;done) | (go_simp;rfl));(case hp => exact (Reps.c2 (show Kd.M k41 _ _ _ (⟨wrap64 (-(ji4)),Int.tmod (wrap64 (a1)) (ji6)⟩ : S41) [.int .i64 (wrap64 (-(ji4))),.int .i64 (Int.tmod (wrap64 (a1)) (ji6))] from (k41_mkM _ _ _ (⟨wrap64 (-(ji4)),Int.tmod (wrap64 (a1)) (ji6)⟩ : S41) )) (Reps.none _ _)))
        intro v197 w42 ho43 hb hg_ hnew_
        clear hg_ hnew_
        (first | rw [← Ny196.out] at ho43 | (simp only [Int.reduceToNat] at ho43;rw [← Ny196.out] at ho43))
        have n0_:=aMx13 (Kd.R_elder' (by (with_reducible repeat (first | apply Kd.R_alloc | apply Kd.R_drewN | apply Kd.R_drew));exact HO177.out) (Kd.R_base ho43) hb)
        have n1_:=aMx13 (Kd.R_below (by (with_reducible repeat (first | apply Kd.R_alloc | apply Kd.R_drewN | apply Kd.R_drew));exact HO181.out) hb)
        have n2_:=aMx13 (Kd.R_elder' (by (with_reducible repeat (first | apply Kd.R_alloc | apply Kd.R_drewN | apply Kd.R_drew));exact HO184.out) (Kd.R_base ho43) hb)
        have n3_:=aMx13 (Kd.R_below (by (with_reducible repeat (first | apply Kd.R_alloc | apply Kd.R_drewN | apply Kd.R_drew));exact HO188.out) hb)
        have n4_:=aMx13 (Kd.R_below (by (with_reducible repeat (first | apply Kd.R_alloc | apply Kd.R_drewN | apply Kd.R_drew));exact HO191.out) hb)
        have n5_:=aMx13 (Kd.R_elder' (by (with_reducible repeat (first | apply Kd.R_alloc | apply Kd.R_drewN | apply Kd.R_drew));exact HO195.out) (Kd.R_base ho43) hb)
        have n6_:=aMx13 (Kd.R_lower (Kd.R_newB (Kd.R_newB (Kd.R_new' (Kd.R_new' (Kd.R_new' ho43 (Kd.R_lt (by (with_reducible repeat (first | apply Kd.R_alloc | apply Kd.R_drewN | apply Kd.R_drew));exact HO177.out))) (Kd.R_lt (by (with_reducible repeat (first | apply Kd.R_alloc | apply Kd.R_drewN | apply Kd.R_drew));exact HO184.out))) (Kd.R_lt (by (with_reducible repeat (first | apply Kd.R_alloc | apply Kd.R_drewN | apply Kd.R_drew));exact HO195.out))) (g:=gb173) (o:=.cells #[.int .i64 (wrap64 (-(ji4))),.int .i64 (Int.tmod (wrap64 (a1)) (ji6))] 41 (0,0)) (by (with_reducible repeat (first | refine blk_drewN ?_ _ | refine blk_drew ?_ | refine blk_alloc ?_ _));exact BK173.out)) (g:=gb174) (o:=.cells #[.int .i64 (wrap64 (-(ji4))),.int .i64 (Int.tmod (wrap64 (a2)) (ji6))] 41 (0,0)) (by (with_reducible repeat (first | refine blk_drewN ?_ _ | refine blk_drew ?_ | refine blk_alloc ?_ _));exact BK174.out)) (below_size (by repeat (first | (with_reducible first | exact HB.out | apply below_alloc | apply pw_below_drewN | apply below_drew1 | refine below_set ?_ GE173.out | refine below_set ?_ GE174.out) | exact HB.out))))
        have n7_:=aMx13 (blk_below (g:=gb173) (o:=.cells #[.int .i64 (wrap64 (-(ji4))),.int .i64 (Int.tmod (wrap64 (a1)) (ji6))] 41 (0,0)) (by (with_reducible repeat (first | refine blk_drewN ?_ _ | refine blk_drew ?_ | refine blk_alloc ?_ _));exact BK173.out) hb)
        have n8_:=aMx13 (blk_below (g:=gb174) (o:=.cells #[.int .i64 (wrap64 (-(ji4))),.int .i64 (Int.tmod (wrap64 (a2)) (ji6))] 41 (0,0)) (by (with_reducible repeat (first | refine blk_drewN ?_ _ | refine blk_drew ?_ | refine blk_alloc ?_ _));exact BK174.out) hb)
        have n9_:=aMx13 (below_step (by repeat (first | (with_reducible first | exact HB.out | apply below_alloc | apply pw_below_drewN | apply below_drew1 | refine below_set ?_ GE173.out | refine below_set ?_ GE174.out) | exact HB.out)) hb)
        clear HO177
        clear HO181
        clear HO184
        clear HO188
        clear HO191
        clear HO195
        clear BK173
        clear BK174
        clear HB
        have HO177:=n0_
        have HO181:=n1_
        have HO184:=n2_
        have HO188:=n3_
        have HO191:=n4_
        have HO195:=n5_
        have HO198:=n6_
        have BK173:=n7_
        have BK174:=n8_
        have HB:=n9_
        clear n0_ n1_ n2_ n3_ n4_ n5_ n6_ n7_ n8_ n9_
        clear hb ho43
        obtain ⟨Ao44,co44,eo44⟩:=Kd.R_slice HO195.out
        (first | subst eo44 | (injection eo44 with f1_ f2_ f3_;have f4_:=f1_.symm;have f5_:=f3_.symm;clear f1_ f2_ f3_;subst f4_;subst f5_))
        obtain ⟨Ao45,co45,eo45⟩:=Kd.R_slice HO198.out
        (first | subst eo45 | (injection eo45 with f1_ f2_ f3_;have f4_:=f1_.symm;have f5_:=f3_.symm;clear f1_ f2_ f3_;subst f4_;subst f5_))
        refine hK.out _ _ ⟨(blk_cell BK173.out 0).trans rfl,(blk_cell BK173.out 1).trans rfl,(blk_cell BK174.out 0).trans rfl,(blk_cell BK174.out 1).trans rfl⟩ (fun hHeld => ?_)
        clear hK K
        refine norm_ (a':=?_) ?_ ?_
        rotate_left
        ·show Act.put _ (some 69) _ = _
         simp only [Act.put,sAx13,sBx13,sCx13,i64_w,i32_w]
         rfl
        refine one_ (i:=14) (N:=some 70) #[true,true,true,true,true,true,true,true,true,true,true,true,true,true,true,false,false,false,false,false,false,false,false,false,false,false,false,false,false] rfl rfl (one_of HT_.out (by kernel_rfl)) (by decide) (fun K hK => ?_)
        refine goes_ Try.func17 (by kernel_rfl) rfl #[.slice Ao44 t192.length co44,.slice Ao45 y196.length co45] (by rfl) rfl rfl (by (try simp only [List.map_toArray,List.map_cons,List.map_nil]);first | done | rfl | (simp only [List.length_drop,List.length_take];rfl)) ?_
        with_reducible refine (lapidaryref06_Same.calls k _ _ t192 _ _ y196 true _ ?side1 ?side2 ?side3 ?side4 A16.out).mono ?_
        (case side1 => repeat (first|exact (Kd.R_reads' HO195.out).2.2|(with_reducible first|refine Kd.C_alloc ?_ _|refine Kd.C_drewN ?_ _|refine Kd.C_drew ?_)))
        (case side2 => exact (Kd.R_reads' HO195.out).2.1)
        (case side3 => repeat (first|exact (Kd.R_reads' HO198.out).2.2|(with_reducible first|refine Kd.C_alloc ?_ _|refine Kd.C_drewN ?_ _|refine Kd.C_drew ?_)))
        (case side4 => exact (Kd.R_reads' HO198.out).2.1)
        rintro e w' ⟨rfl,⟨nd,rfl⟩⟩
        refine ⟨_,rfl,?_⟩
        obtain ⟨Ao46,co46,eo46⟩:=Kd.R_slice HO188.out
        (first | subst eo46 | (injection eo46 with f1_ f2_ f3_;have f4_:=f1_.symm;have f5_:=f3_.symm;clear f1_ f2_ f3_;subst f4_;subst f5_))
        refine hK.out _ _ ⟨(blk_cell BK173.out 0).trans rfl,(blk_cell BK173.out 1).trans rfl,(blk_cell BK174.out 0).trans rfl,(blk_cell BK174.out 1).trans rfl⟩ (fun hHeld => ?_)
        clear hK K
        refine norm_ (a':=?_) ?_ ?_
        rotate_left
        ·show Act.put _ (some 70) _ = _
         simp only [Act.put,sAx13,sBx13,sCx13,i64_w,i32_w]
         rfl
        refine pure_ (i:=15) (N:=some 71) (v:=?_) (a':=?_) #[true,true,true,true,true,true,true,true,true,true,true,true,true,true,true,true,false,false,false,false,false,false,false,false,false,false,false,false,false] rfl rfl (any_of HT_.out (by kernel_rfl)) (fun _ _ _ h => h) (Or.inl ⟨by rfl,?_⟩) ?_ ?_
        rotate_left
        ·intro w'
         go_simp
         with_reducible rfl
        rotate_left
        ·simp only [Act.put,sAx13,sBx13,sCx13,i64_w,i32_w]
         rfl
        refine pure_ (i:=16) (N:=some 72) (v:=?_) (a':=?_) #[true,true,true,true,true,true,true,true,true,true,true,true,true,true,true,true,true,false,false,false,false,false,false,false,false,false,false,false,false] rfl rfl (any_of HT_.out (by kernel_rfl)) (fun _ _ _ h => h) (Or.inl ⟨by rfl,?_⟩) ?_ ?_
        rotate_left
        ·intro w'
         go_simp
         with_reducible rfl
        rotate_left
        ·simp only [Act.put,sAx13,sBx13,sCx13,i64_w,i32_w]
         rfl
        refine pure_ (i:=17) (N:=some 73) (v:=?_) (a':=?_) #[true,true,true,true,true,true,true,true,true,true,true,true,true,true,true,true,true,true,false,false,false,false,false,false,false,false,false,false,false] rfl rfl (any_of HT_.out (by kernel_rfl)) (fun _ _ _ h => h) (Or.inl ⟨by rfl,?_⟩) ?_ ?_
        rotate_left
        ·intro w'
         go_simp
         with_reducible rfl
        rotate_left
        ·simp only [Act.put,sAx13,sBx13,sCx13,i64_w,i32_w]
         rfl
        refine pure_ (i:=18) (N:=some 74) (v:=?_) (a':=?_) #[true,true,true,true,true,true,true,true,true,true,true,true,true,true,true,true,true,true,true,false,false,false,false,false,false,false,false,false,false] rfl rfl (any_of HT_.out (by kernel_rfl)) (fun _ _ _ h => h) (Or.inl ⟨by rfl,?_⟩) ?_ ?_
        rotate_left
        ·intro w'
         go_simp
         with_reducible rfl
        rotate_left
        ·simp only [Act.put,sAx13,sBx13,sCx13,i64_w,i32_w]
         rfl
        refine take_ (i:=20) (N:=some 76) (v:=?_) (a':=?_) #[true,true,true,true,true,true,true,true,true,true,true,true,true,true,true,true,true,true,true,false,true,false,false,false,false,false,false,false,false] rfl rfl (take_ofW HT_.out HW_.out (by kernel_rfl)) (fun _ _ _ h => h) (Or.inl ⟨by rfl,?_⟩) hHeld ?_ ?_
        rotate_left
        ·rintro w' ⟨s0,s1,s2,s3⟩
         go_simp
         with_reducible rfl
        rotate_left
        ·simp only [Act.put,sAx13,sBx13,sCx13,i64_w,i32_w]
         rfl
        refine take_ (i:=21) (N:=some 77) (v:=?_) (a':=?_) #[true,true,true,true,true,true,true,true,true,true,true,true,true,true,true,true,true,true,true,false,true,true,false,false,false,false,false,false,false] rfl rfl (take_ofW HT_.out HW_.out (by kernel_rfl)) (fun _ _ _ h => h) (Or.inl ⟨by rfl,?_⟩) hHeld ?_ ?_
        rotate_left
        ·rintro w' ⟨s0,s1,s2,s3⟩
         go_simp
         with_reducible rfl
        rotate_left
        ·simp only [Act.put,sAx13,sBx13,sCx13,i64_w,i32_w]
         rfl
        refine pure_ (i:=22) (N:=some 78) (v:=?_) (a':=?_) #[true,true,true,true,true,true,true,true,true,true,true,true,true,true,true,true,true,true,true,false,true,true,true,false,false,false,false,false,false] rfl rfl (any_of HT_.out (by kernel_rfl)) (fun _ _ _ h => h) (Or.inl ⟨by rfl,?_⟩) ?_ ?_
        rotate_left
        ·intro w'
         go_simp
         with_reducible rfl
        rotate_left
        ·simp only [Act.put,sAx13,sBx13,sCx13,i64_w,i32_w]
         rfl
        refine one_ (i:=19) (N:=some 75) #[true,true,true,true,true,true,true,true,true,true,true,true,true,true,true,true,true,true,true,true,true,true,true,false,false,false,false,false,false] rfl rfl (one_of HT_.out (by kernel_rfl)) (by decide) (fun K hK => ?_)
        refine goes_ Try.func14 (by kernel_rfl) rfl #[.slice Ao39 t178.length co39,.slice Ao46 t185.length co46] (by rfl) rfl rfl (by (try simp only [List.map_toArray,List.map_cons,List.map_nil]);first | done | rfl | (simp only [List.length_drop,List.length_take];rfl)) ?_
        with_reducible refine (lapidaryref00_Same.calls _ _ t178 _ _ t185 t200 _ ?side1 ?side2 ?side3 ?side4 A18.out).mono ?_
        (case side1 => repeat (first|exact (Kd.R_reads' HO181.out).2.2|(with_reducible first|refine Kd.C_alloc ?_ _|refine Kd.C_drewN ?_ _|refine Kd.C_drew ?_)))
        (case side2 => exact (Kd.R_reads' HO181.out).2.1)
        (case side3 => repeat (first|exact (Kd.R_reads' HO188.out).2.2|(with_reducible first|refine Kd.C_alloc ?_ _|refine Kd.C_drewN ?_ _|refine Kd.C_drew ?_)))
        (case side4 => exact (Kd.R_reads' HO188.out).2.1)
        rintro e w' ⟨rfl,⟨nd,rfl⟩⟩
        refine ⟨_,rfl,?_⟩
        refine hK.out _ _ ⟨(blk_cell BK173.out 0).trans rfl,(blk_cell BK173.out 1).trans rfl,(blk_cell BK174.out 0).trans rfl,(blk_cell BK174.out 1).trans rfl⟩ (fun hHeld => ?_)
        clear hK K
        refine norm_ (a':=?_) ?_ ?_
        rotate_left
        ·show Act.put _ (some 75) _ = _
         simp only [Act.put,sAx13,sBx13,sCx13,i64_w,i32_w]
         rfl
        refine pure_ (i:=23) (N:=some 79) (v:=?_) (a':=?_) #[true,true,true,true,true,true,true,true,true,true,true,true,true,true,true,true,true,true,true,true,true,true,true,true,false,false,false,false,false] rfl rfl (any_of HT_.out (by kernel_rfl)) (fun _ _ _ h => h) (Or.inl ⟨by rfl,?_⟩) ?_ ?_
        rotate_left
        ·intro w'
         go_simp
         with_reducible rfl
        rotate_left
        ·simp only [Act.put,sAx13,sBx13,sCx13,i64_w,i32_w]
         rfl
        refine pure_ (i:=24) (N:=some 80) (v:=?_) (a':=?_) #[true,true,true,true,true,true,true,true,true,true,true,true,true,true,true,true,true,true,true,true,true,true,true,true,true,false,false,false,false] rfl rfl (any_of HT_.out (by kernel_rfl)) (fun _ _ _ h => h) (Or.inl ⟨by rfl,?_⟩) ?_ ?_
        rotate_left
        ·intro w'
         go_simp
         with_reducible rfl
        rotate_left
        ·simp only [Act.put,sAx13,sBx13,sCx13,i64_w,i32_w]
         rfl
        refine pure_ (i:=25) (N:=some 81) (v:=?_) (a':=?_) #[true,true,true,true,true,true,true,true,true,true,true,true,true,true,true,true,true,true,true,true,true,true,true,true,true,true,false,false,false] rfl rfl (any_of HT_.out (by kernel_rfl)) (fun _ _ _ h => h) (Or.inl ⟨by rfl,?_⟩) ?_ ?_
        rotate_left
        ·intro w'
         go_simp
         with_reducible rfl
        rotate_left
        ·simp only [Act.put,sAx13,sBx13,sCx13,i64_w,i32_w]
         rfl
        refine one_ (i:=26) (N:=some 82) #[true,true,true,true,true,true,true,true,true,true,true,true,true,true,true,true,true,true,true,true,true,true,true,true,true,true,true,false,false] rfl rfl (one_of HT_.out (by kernel_rfl)) (by decide) (fun K hK => ?_)
        refine goes_ Try.func11 (by kernel_rfl) rfl #[] (by rfl) rfl rfl (by (try simp only [List.map_toArray,List.map_cons,List.map_nil]);first | done | rfl | (simp only [List.length_drop,List.length_take];rfl)) ?_
        with_reducible refine (lapidarylaw06_known.calls k  t201 _ A20.out).mono ?_
        rintro e w47 ⟨rfl,hb⟩
        refine ⟨_,rfl,?_⟩
        have n0_:=aMx13 (Kd.R_below (by (with_reducible repeat (first | apply Kd.R_alloc | apply Kd.R_drewN | apply Kd.R_drew));exact HO177.out) hb)
        have n1_:=aMx13 (Kd.R_below (by (with_reducible repeat (first | apply Kd.R_alloc | apply Kd.R_drewN | apply Kd.R_drew));exact HO181.out) hb)
        have n2_:=aMx13 (Kd.R_below (by (with_reducible repeat (first | apply Kd.R_alloc | apply Kd.R_drewN | apply Kd.R_drew));exact HO184.out) hb)
        have n3_:=aMx13 (Kd.R_below (by (with_reducible repeat (first | apply Kd.R_alloc | apply Kd.R_drewN | apply Kd.R_drew));exact HO188.out) hb)
        have n4_:=aMx13 (Kd.R_below (by (with_reducible repeat (first | apply Kd.R_alloc | apply Kd.R_drewN | apply Kd.R_drew));exact HO191.out) hb)
        have n5_:=aMx13 (Kd.R_below (by (with_reducible repeat (first | apply Kd.R_alloc | apply Kd.R_drewN | apply Kd.R_drew));exact HO195.out) hb)
        have n6_:=aMx13 (Kd.R_below (by (with_reducible repeat (first | apply Kd.R_alloc | apply Kd.R_drewN | apply Kd.R_drew));exact HO198.out) hb)
        have n7_:=aMx13 (blk_below (g:=gb173) (o:=.cells #[.int .i64 (wrap64 (-(ji4))),.int .i64 (Int.tmod (wrap64 (a1)) (ji6))] 41 (0,0)) (by (with_reducible repeat (first | refine blk_drewN ?_ _ | refine blk_drew ?_ | refine blk_alloc ?_ _));exact BK173.out) hb)
        have n8_:=aMx13 (blk_below (g:=gb174) (o:=.cells #[.int .i64 (wrap64 (-(ji4))),.int .i64 (Int.tmod (wrap64 (a2)) (ji6))] 41 (0,0)) (by (with_reducible repeat (first | refine blk_drewN ?_ _ | refine blk_drew ?_ | refine blk_alloc ?_ _));exact BK174.out) hb)
        have n9_:=aMx13 (below_step (by repeat (first | (with_reducible first | exact HB.out | apply below_alloc | apply pw_below_drewN | apply below_drew1 | refine below_set ?_ GE173.out | refine below_set ?_ GE174.out) | exact HB.out)) hb)
        clear HO177
        clear HO181
        clear HO184
        clear HO188
        clear HO191
        clear HO195
        clear HO198
        clear BK173
        clear BK174
        clear HB
        have HO177:=n0_
        have HO181:=n1_
        have HO184:=n2_
        have HO188:=n3_
        have HO191:=n4_
        have HO195:=n5_
        have HO198:=n6_
        have BK173:=n7_
        have BK174:=n8_
        have HB:=n9_
        clear n0_ n1_ n2_ n3_ n4_ n5_ n6_ n7_ n8_ n9_
        (try clear hb)
        (try clear hb2)
        (try clear hk)
        (try clear hi)
        refine hK.out _ _ ⟨(blk_cell BK173.out 0).trans rfl,(blk_cell BK173.out 1).trans rfl,(blk_cell BK174.out 0).trans rfl,(blk_cell BK174.out 1).trans rfl⟩ (fun hHeld => ?_)
        clear hK K
        refine norm_ (a':=?_) ?_ ?_
        rotate_left
        ·show Act.put _ (some 82) _ = _
         simp only [Act.put,sAx13,sBx13,sCx13,i64_w,i32_w]
         rfl
        refine pure_ (i:=27) (N:=some 83) (v:=?_) (a':=?_) #[true,true,true,true,true,true,true,true,true,true,true,true,true,true,true,true,true,true,true,true,true,true,true,true,true,true,true,true,false] rfl rfl (any_of HT_.out (by kernel_rfl)) (fun _ _ _ h => h) (Or.inl ⟨by rfl,?_⟩) ?_ ?_
        rotate_left
        ·intro w'
         go_simp
         with_reducible rfl
        rotate_left
        ·simp only [Act.put,sAx13,sBx13,sCx13,i64_w,i32_w]
         rfl
        refine pure_ (i:=28) (N:=some 6) (v:=?_) (a':=?_) #[true,true,true,true,true,true,true,true,true,true,true,true,true,true,true,true,true,true,true,true,true,true,true,true,true,true,true,true,true] rfl rfl (any_of HT_.out (by kernel_rfl)) (fun _ _ _ h => h) (Or.inl ⟨by rfl,?_⟩) ?_ ?_
        rotate_left
        ·intro w'
         go_simp
         with_reducible rfl
        rotate_left
        ·simp only [Act.put,sAx13,sBx13,sCx13,i64_w,i32_w]
         rfl
        refine done_ (done_of HT_.out (by kernel_rfl)) ?_
        try go_wp2
        go_ret
        exact ⟨by first | rfl | (simp [errW_none,errW_some]<;>rfl) | (simp only [← hji4,← hji6];first | rfl | (simp [errW_none,errW_some]<;>rfl)) | (simp [*,errW_none,errW_some]<;>rfl),by repeat (first | (with_reducible first | exact HB.out | apply below_alloc | apply pw_below_drewN | apply below_drew1 | refine below_set ?_ GE173.out | refine below_set ?_ GE174.out) | exact HB.out)⟩
       ·rw [if_neg c19] at H
        have c19b0 : (t200 == ((Int.tmod (wrap64 (a1)) (ji6)) == (Int.tmod (wrap64 (a2)) (ji6)))) = false:=by simpa using c19
        (try (have c19b1 : decide (t200 = ((Int.tmod (wrap64 (a1)) (ji6)) == (Int.tmod (wrap64 (a2)) (ji6)))) = false:=by simpa using c19))
        (try (have c19b2 : (t200 == ((Int.tmod (wrap64 (a1)) (ji6)) == (Int.tmod (wrap64 (a2)) (ji6)))) = false:=by simpa using c19))
        (try (have c19b3 : ¬ (t200 = ((Int.tmod (wrap64 (a1)) (ji6)) == (Int.tmod (wrap64 (a2)) (ji6)))):=by simpa using c19))
        clear c19
        obtain rfl:=Option.some.inj H
        go_enter Try.func8,Try.ntmps8
        try go_wp2_with (first|((with_reducible refine gate_dst (N:=8) rfl ?_);(try (refine gate_guard (by rfl) ?_;dsimp only));refine box_event ?hg (N:=8) ?hd (cs:=#[.int .i64 0,.int .i64 0]) (t:=41) ?hr ?_;(case hd => rfl);(case hg => rfl);(case hr => first|(go_simp;done)|(go_simp;rfl));intro gb173 hg w48 hbox hb;have n0_:=aMx13 (below_step (by repeat (with_reducible first|exact HB.out|apply below_alloc|apply pw_below_drewN|apply below_drew1)) hb);have n1_:=aMx13 (hbox);have n2_:=aMx13 ((by rw [hg];exact (below_size (by repeat (with_reducible first|exact HB.out|apply below_alloc|apply pw_below_drewN|apply below_drew1))) : w.heap.size ≤ gb173));have n3_:=aMx13 ((by rw [hg];exact (below_size (by repeat (with_reducible first|exact HB.out|apply below_alloc|apply pw_below_drewN|apply below_drew1))) : w.heap.size ≤ gb173));clear HB;have HB:=n0_;have BK173:=n1_;have GW173:=n2_;have GE173:=n3_;clear n0_ n1_ n2_ n3_;clear hb hbox hg;have hcz49_0 : w48.cell? ⟨gb173,0,none⟩ = some (.int .i64 0):=(blk_cell BK173.out 0).trans rfl;have hcz49_1 : w48.cell? ⟨gb173,1,none⟩ = some (.int .i64 0):=(blk_cell BK173.out 1).trans rfl;have hfz49_0:=blk_frozen BK173.out 0;have hfz49_1:=blk_frozen BK173.out 1)|((with_reducible refine gate_dst (N:=9) rfl ?_);(try (refine gate_guard (by rfl) ?_;dsimp only));refine box_event ?hg (N:=9) ?hd (cs:=#[.int .i64 0,.int .i64 0]) (t:=41) ?hr ?_;(case hd => rfl);(case hg => rfl);(case hr => first|(go_simp;done)|(go_simp;rfl));intro gb174 hg w50 hbox hb;have n0_:=aMx13 (blk_below (g:=gb173) (o:=.cells #[.int .i64 (wrap64 (-(ji4))),.int .i64 (Int.tmod (wrap64 (a1)) (ji6))] 41 (0,0)) (by (with_reducible repeat (first|refine blk_drewN ?_ _|refine blk_drew ?_|refine blk_alloc ?_ _));refine blk_put (cs:=#[.int .i64 (wrap64 (-(ji4))),.int .i64 0]) ?_ 1 _ rfl;(with_reducible repeat (first|refine blk_drewN ?_ _|refine blk_drew ?_|refine blk_alloc ?_ _));refine blk_put (cs:=#[.int .i64 0,.int .i64 0]) ?_ 0 _ rfl;(with_reducible repeat (first|refine blk_drewN ?_ _|refine blk_drew ?_|refine blk_alloc ?_ _));exact BK173.out) hb);have n1_:=aMx13 (below_step (by repeat (first|(with_reducible first|exact HB.out|apply below_alloc|apply pw_below_drewN|apply below_drew1|refine below_set ?_ GE173.out)|exact HB.out)) hb);have n2_:=aMx13 (hbox);have n3_:=aMx13 ((by rw [hg];exact (below_size (by repeat (first|(with_reducible first|exact HB.out|apply below_alloc|apply pw_below_drewN|apply below_drew1|refine below_set ?_ GE173.out)|exact HB.out))) : w.heap.size ≤ gb174));have n4_:=aMx13 ((by rw [hg];exact (below_size (by repeat (first|(with_reducible first|exact HB.out|apply below_alloc|apply pw_below_drewN|apply below_drew1|refine below_set ?_ GE173.out)|exact HB.out))) : w.heap.size ≤ gb174));have n5_:=aMx13 ((by rw [hg];exact Nat.ne_of_lt (blk_lt (g:=gb173) (o:=.cells #[.int .i64 (wrap64 (-(ji4))),.int .i64 (Int.tmod (wrap64 (a1)) (ji6))] 41 (0,0)) (by (with_reducible repeat (first|refine blk_drewN ?_ _|refine blk_drew ?_|refine blk_alloc ?_ _));refine blk_put (cs:=#[.int .i64 (wrap64 (-(ji4))),.int .i64 0]) ?_ 1 _ rfl;(with_reducible repeat (first|refine blk_drewN ?_ _|refine blk_drew ?_|refine blk_alloc ?_ _));refine blk_put (cs:=#[.int .i64 0,.int .i64 0]) ?_ 0 _ rfl;(with_reducible repeat (first|refine blk_drewN ?_ _|refine blk_drew ?_|refine blk_alloc ?_ _));exact BK173.out)) : gb173 ≠ gb174));have n6_:=aMx13 ((by rw [hg];exact Nat.ne_of_gt (blk_lt (g:=gb173) (o:=.cells #[.int .i64 (wrap64 (-(ji4))),.int .i64 (Int.tmod (wrap64 (a1)) (ji6))] 41 (0,0)) (by (with_reducible repeat (first|refine blk_drewN ?_ _|refine blk_drew ?_|refine blk_alloc ?_ _));refine blk_put (cs:=#[.int .i64 (wrap64 (-(ji4))),.int .i64 0]) ?_ 1 _ rfl;(with_reducible repeat (first|refine blk_drewN ?_ _|refine blk_drew ?_|refine blk_alloc ?_ _));refine blk_put (cs:=#[.int .i64 0,.int .i64 0]) ?_ 0 _ rfl;(with_reducible repeat (first|refine blk_drewN ?_ _|refine blk_drew ?_|refine blk_alloc ?_ _));exact BK173.out)) : gb174 ≠ gb173));clear BK173;clear HB;have BK173:=n0_;have HB:=n1_;have BK174:=n2_;have GW174:=n3_;have GE174:=n4_;have NB173_174:=n5_;have NB174_173:=n6_;clear n0_ n1_ n2_ n3_ n4_ n5_ n6_;clear hb hbox hg;have hnb51:=NB174_173.out;have hnc51:=NB173_174.out;have hcz52_0 : w50.cell? ⟨gb174,0,none⟩ = some (.int .i64 0):=(blk_cell BK174.out 0).trans rfl;have hcz52_1 : w50.cell? ⟨gb174,1,none⟩ = some (.int .i64 0):=(blk_cell BK174.out 1).trans rfl;have hfz52_0:=blk_frozen BK174.out 0;have hfz52_1:=blk_frozen BK174.out 1;have hcz53_0 : w50.cell? ⟨gb173,0,none⟩ = some (.int .i64 (wrap64 (-(ji4)))):=(blk_cell BK173.out 0).trans rfl;have hcz53_1 : w50.cell? ⟨gb173,1,none⟩ = some (.int .i64 (Int.tmod (wrap64 (a1)) (ji6))):=(blk_cell BK173.out 1).trans rfl;have hfz53_0:=blk_frozen BK173.out 0;have hfz53_1:=blk_frozen BK173.out 1)|((with_reducible refine gate_dst (N:=38) rfl ?_);(try (refine gate_guard (by rfl) ?_;dsimp only));refine Kd.R_lit k41 _ 41 ?hg (N:=38) ?hd (xs:=([(⟨wrap64 (-(ji4)),Int.tmod (wrap64 (a1)) (ji6)⟩ : S41)] : List (S41))) (inner:=[.int .i64 (wrap64 (-(ji4))),.int .i64 (Int.tmod (wrap64 (a1)) (ji6))]) (ok:=fun _ => True) (okp:=fun _ => True) ?hr ?hp (fun _ hk => hk) trivial (Below.refl _ _) (Nat.le_refl _) (by simp) ?_;(case hd => rfl);(case hg => rfl);(case hr => first|(go_simp;done)|(go_simp;rfl));(case hp => exact (Reps.c2 (show Kd.M k41 _ _ _ (⟨wrap64 (-(ji4)),Int.tmod (wrap64 (a1)) (ji6)⟩ : S41) [.int .i64 (wrap64 (-(ji4))),.int .i64 (Int.tmod (wrap64 (a1)) (ji6))] from (k41_mkM _ _ _ (⟨wrap64 (-(ji4)),Int.tmod (wrap64 (a1)) (ji6)⟩ : S41) )) (Reps.none _ _)));intro v176 w54 ho55 hb hg_ hnew_;clear hg_ hnew_;(first|rw [← Ny175.out] at ho55|(simp only [Int.reduceToNat] at ho55;rw [← Ny175.out] at ho55));have n0_:=aMx13 (Kd.R_lower (Kd.R_newB (Kd.R_newB ho55 (g:=gb173) (o:=.cells #[.int .i64 (wrap64 (-(ji4))),.int .i64 (Int.tmod (wrap64 (a1)) (ji6))] 41 (0,0)) (by (with_reducible repeat (first|refine blk_drewN ?_ _|refine blk_drew ?_|refine blk_alloc ?_ _));refine blk_far ?_ NB173_174.out _;(with_reducible repeat (first|refine blk_drewN ?_ _|refine blk_drew ?_|refine blk_alloc ?_ _));refine blk_far ?_ NB173_174.out _;(with_reducible repeat (first|refine blk_drewN ?_ _|refine blk_drew ?_|refine blk_alloc ?_ _));exact BK173.out)) (g:=gb174) (o:=.cells #[.int .i64 (wrap64 (-(ji4))),.int .i64 (Int.tmod (wrap64 (a2)) (ji6))] 41 (0,0)) (by (with_reducible repeat (first|refine blk_drewN ?_ _|refine blk_drew ?_|refine blk_alloc ?_ _));refine blk_put (cs:=#[.int .i64 (wrap64 (-(ji4))),.int .i64 0]) ?_ 1 _ rfl;(with_reducible repeat (first|refine blk_drewN ?_ _|refine blk_drew ?_|refine blk_alloc ?_ _));refine blk_put (cs:=#[.int .i64 0,.int .i64 0]) ?_ 0 _ rfl;(with_reducible repeat (first|refine blk_drewN ?_ _|refine blk_drew ?_|refine blk_alloc ?_ _));exact BK174.out)) (below_size (by repeat (first|(with_reducible first|exact HB.out|apply below_alloc|apply pw_below_drewN|apply below_drew1|refine below_set ?_ GE173.out|refine below_set ?_ GE174.out)|exact HB.out))));have n1_:=aMx13 (blk_below (g:=gb173) (o:=.cells #[.int .i64 (wrap64 (-(ji4))),.int .i64 (Int.tmod (wrap64 (a1)) (ji6))] 41 (0,0)) (by (with_reducible repeat (first|refine blk_drewN ?_ _|refine blk_drew ?_|refine blk_alloc ?_ _));refine blk_far ?_ NB173_174.out _;(with_reducible repeat (first|refine blk_drewN ?_ _|refine blk_drew ?_|refine blk_alloc ?_ _));refine blk_far ?_ NB173_174.out _;(with_reducible repeat (first|refine blk_drewN ?_ _|refine blk_drew ?_|refine blk_alloc ?_ _));exact BK173.out) hb);have n2_:=aMx13 (blk_below (g:=gb174) (o:=.cells #[.int .i64 (wrap64 (-(ji4))),.int .i64 (Int.tmod (wrap64 (a2)) (ji6))] 41 (0,0)) (by (with_reducible repeat (first|refine blk_drewN ?_ _|refine blk_drew ?_|refine blk_alloc ?_ _));refine blk_put (cs:=#[.int .i64 (wrap64 (-(ji4))),.int .i64 0]) ?_ 1 _ rfl;(with_reducible repeat (first|refine blk_drewN ?_ _|refine blk_drew ?_|refine blk_alloc ?_ _));refine blk_put (cs:=#[.int .i64 0,.int .i64 0]) ?_ 0 _ rfl;(with_reducible repeat (first|refine blk_drewN ?_ _|refine blk_drew ?_|refine blk_alloc ?_ _));exact BK174.out) hb);have n3_:=aMx13 (below_step (by repeat (first|(with_reducible first|exact HB.out|apply below_alloc|apply pw_below_drewN|apply below_drew1|refine below_set ?_ GE173.out|refine below_set ?_ GE174.out)|exact HB.out)) hb);clear BK173;clear BK174;clear HB;have HO177:=n0_;have BK173:=n1_;have BK174:=n2_;have HB:=n3_;clear n0_ n1_ n2_ n3_;clear hb ho55;obtain ⟨Ao56,co56,eo56⟩:=Kd.R_slice HO177.out;subst eo56)|((with_reducible refine gate_callee (f:=12) rfl ?_);refine goesL_ (some 39) rfl rfl Try.func12 (by kernel_rfl) rfl #[.slice none 0 0,.slice Ao56 y175.length co56] rfl (by (try simp only [List.map_toArray,List.map_cons,List.map_nil]);first|done|rfl|(simp only [List.length_drop,List.length_take];rfl)) ?_;(refine (coder_Encode.calls _ _ ([] : List Int) _ _ y175 t178 t179 _ ?side1 ?side2 ?side3 ?side4 A10.out).mono ?_);(case side1 => exact Kd.C_nil _ _);(case side2 => exact Nat.le_refl _);(case side3 => repeat (first|exact (Kd.R_reads' HO177.out).2.2|(with_reducible first|refine Kd.C_alloc ?_ _|refine Kd.C_drewN ?_ _|refine Kd.C_drew ?_)));(case side4 => exact (Kd.R_reads' HO177.out).2.1);rintro e w57 ⟨v180,rfl,ho0,hb⟩;refine ⟨_,rfl,?_⟩;have n0_:=aMx13 (Kd.R_below (by (with_reducible repeat (first|apply Kd.R_alloc|apply Kd.R_drewN|apply Kd.R_drew));exact HO177.out) hb);have n1_:=aMx13 (Kd.R_lower ho0 (below_size (by repeat (first|(with_reducible first|exact HB.out|apply below_alloc|apply pw_below_drewN|apply below_drew1|refine below_set ?_ GE173.out|refine below_set ?_ GE174.out)|exact HB.out))));have n2_:=aMx13 (blk_below (g:=gb173) (o:=.cells #[.int .i64 (wrap64 (-(ji4))),.int .i64 (Int.tmod (wrap64 (a1)) (ji6))] 41 (0,0)) (by (with_reducible repeat (first|refine blk_drewN ?_ _|refine blk_drew ?_|refine blk_alloc ?_ _));exact BK173.out) hb);have n3_:=aMx13 (blk_below (g:=gb174) (o:=.cells #[.int .i64 (wrap64 (-(ji4))),.int .i64 (Int.tmod (wrap64 (a2)) (ji6))] 41 (0,0)) (by (with_reducible repeat (first|refine blk_drewN ?_ _|refine blk_drew ?_|refine blk_alloc ?_ _));exact BK174.out) hb);have n4_:=aMx13 (below_step (by repeat (first|(with_reducible first|exact HB.out|apply below_alloc|apply pw_below_drewN|apply below_drew1|refine below_set ?_ GE173.out|refine below_set ?_ GE174.out)|exact HB.out)) hb);clear HO177;clear BK173;clear BK174;clear HB;have HO177:=n0_;have HO181:=n1_;have BK173:=n2_;have BK174:=n3_;have HB:=n4_;clear n0_ n1_ n2_ n3_ n4_;(try clear hb);(try clear hb2);(try clear hk);(try clear hi);(try clear ho0);have hcz58_0 : w57.cell? ⟨gb174,0,none⟩ = some (.int .i64 (wrap64 (-(ji4)))):=(blk_cell BK174.out 0).trans rfl;have hcz58_1 : w57.cell? ⟨gb174,1,none⟩ = some (.int .i64 (Int.tmod (wrap64 (a2)) (ji6))):=(blk_cell BK174.out 1).trans rfl;have hfz58_0:=blk_frozen BK174.out 0;have hfz58_1:=blk_frozen BK174.out 1)|((with_reducible refine gate_dst (N:=44) rfl ?_);(try (refine gate_guard (by rfl) ?_;dsimp only));refine Kd.R_lit k41 _ 41 ?hg (N:=44) ?hd (xs:=([(⟨wrap64 (-(ji4)),Int.tmod (wrap64 (a2)) (ji6)⟩ : S41)] : List (S41))) (inner:=[.int .i64 (wrap64 (-(ji4))),.int .i64 (Int.tmod (wrap64 (a2)) (ji6))]) (ok:=fun _ => True) (okp:=fun _ => True) ?hr ?hp (fun _ hk => hk) trivial (Below.refl _ _) (Nat.le_refl _) (by simp) ?_;(case hd => rfl);(case hg => rfl);(case hr => first|(go_simp;done)|(go_simp;rfl));(case hp => exact (Reps.c2 (show Kd.M k41 _ _ _ (⟨wrap64 (-(ji4)),Int.tmod (wrap64 (a2)) (ji6)⟩ : S41) [.int .i64 (wrap64 (-(ji4))),.int .i64 (Int.tmod (wrap64 (a2)) (ji6))] from (k41_mkM _ _ _ (⟨wrap64 (-(ji4)),Int.tmod (wrap64 (a2)) (ji6)⟩ : S41) )) (Reps.none _ _)));intro v183 w59 ho60 hb hg_ hnew_;clear hg_ hnew_;(first|rw [← Ny182.out] at ho60|(simp only [Int.reduceToNat] at ho60;rw [← Ny182.out] at ho60));have n0_:=aMx13 (Kd.R_elder' (by (with_reducible repeat (first|apply Kd.R_alloc|apply Kd.R_drewN|apply Kd.R_drew));exact HO177.out) (Kd.R_base ho60) hb);have n1_:=aMx13 (Kd.R_below (by (with_reducible repeat (first|apply Kd.R_alloc|apply Kd.R_drewN|apply Kd.R_drew));exact HO181.out) hb);have n2_:=aMx13 (Kd.R_lower (Kd.R_newB (Kd.R_newB (Kd.R_new' ho60 (Kd.R_lt (by (with_reducible repeat (first|apply Kd.R_alloc|apply Kd.R_drewN|apply Kd.R_drew));exact HO177.out))) (g:=gb173) (o:=.cells #[.int .i64 (wrap64 (-(ji4))),.int .i64 (Int.tmod (wrap64 (a1)) (ji6))] 41 (0,0)) (by (with_reducible repeat (first|refine blk_drewN ?_ _|refine blk_drew ?_|refine blk_alloc ?_ _));exact BK173.out)) (g:=gb174) (o:=.cells #[.int .i64 (wrap64 (-(ji4))),.int .i64 (Int.tmod (wrap64 (a2)) (ji6))] 41 (0,0)) (by (with_reducible repeat (first|refine blk_drewN ?_ _|refine blk_drew ?_|refine blk_alloc ?_ _));exact BK174.out)) (below_size (by repeat (first|(with_reducible first|exact HB.out|apply below_alloc|apply pw_below_drewN|apply below_drew1|refine below_set ?_ GE173.out|refine below_set ?_ GE174.out)|exact HB.out))));have n3_:=aMx13 (blk_below (g:=gb173) (o:=.cells #[.int .i64 (wrap64 (-(ji4))),.int .i64 (Int.tmod (wrap64 (a1)) (ji6))] 41 (0,0)) (by (with_reducible repeat (first|refine blk_drewN ?_ _|refine blk_drew ?_|refine blk_alloc ?_ _));exact BK173.out) hb);have n4_:=aMx13 (blk_below (g:=gb174) (o:=.cells #[.int .i64 (wrap64 (-(ji4))),.int .i64 (Int.tmod (wrap64 (a2)) (ji6))] 41 (0,0)) (by (with_reducible repeat (first|refine blk_drewN ?_ _|refine blk_drew ?_|refine blk_alloc ?_ _));exact BK174.out) hb);have n5_:=aMx13 (below_step (by repeat (first|(with_reducible first|exact HB.out|apply below_alloc|apply pw_below_drewN|apply below_drew1|refine below_set ?_ GE173.out|refine below_set ?_ GE174.out)|exact HB.out)) hb);clear HO177;clear HO181;clear BK173;clear BK174;clear HB;have HO177:=n0_;have HO181:=n1_;have HO184:=n2_;have BK173:=n3_;have BK174:=n4_;have HB:=n5_;clear n0_ n1_ n2_ n3_ n4_ n5_;clear hb ho60;obtain ⟨Ao61,co61,eo61⟩:=Kd.R_slice HO184.out;subst eo61)|((with_reducible refine gate_callee (f:=12) rfl ?_);refine goesL_ (some 45) rfl rfl Try.func12 (by kernel_rfl) rfl #[.slice none 0 0,.slice Ao61 y182.length co61] rfl (by (try simp only [List.map_toArray,List.map_cons,List.map_nil]);first|done|rfl|(simp only [List.length_drop,List.length_take];rfl)) ?_;(refine (coder_Encode.calls _ _ ([] : List Int) _ _ y182 t185 t186 _ ?side1 ?side2 ?side3 ?side4 A11.out).mono ?_);(case side1 => exact Kd.C_nil _ _);(case side2 => exact Nat.le_refl _);(case side3 => repeat (first|exact (Kd.R_reads' HO184.out).2.2|(with_reducible first|refine Kd.C_alloc ?_ _|refine Kd.C_drewN ?_ _|refine Kd.C_drew ?_)));(case side4 => exact (Kd.R_reads' HO184.out).2.1);rintro e w62 ⟨v187,rfl,ho0,hb⟩;refine ⟨_,rfl,?_⟩;have n0_:=aMx13 (Kd.R_below (by (with_reducible repeat (first|apply Kd.R_alloc|apply Kd.R_drewN|apply Kd.R_drew));exact HO177.out) hb);have n1_:=aMx13 (Kd.R_elder' (by (with_reducible repeat (first|apply Kd.R_alloc|apply Kd.R_drewN|apply Kd.R_drew));exact HO181.out) (Kd.R_base ho0) hb);have n2_:=aMx13 (Kd.R_below (by (with_reducible repeat (first|apply Kd.R_alloc|apply Kd.R_drewN|apply Kd.R_drew));exact HO184.out) hb);have n3_:=aMx13 (Kd.R_lower (Kd.R_new' ho0 (Kd.R_lt (by (with_reducible repeat (first|apply Kd.R_alloc|apply Kd.R_drewN|apply Kd.R_drew));exact HO181.out))) (below_size (by repeat (first|(with_reducible first|exact HB.out|apply below_alloc|apply pw_below_drewN|apply below_drew1|refine below_set ?_ GE173.out|refine below_set ?_ GE174.out)|exact HB.out))));have n4_:=aMx13 (blk_below (g:=gb173) (o:=.cells #[.int .i64 (wrap64 (-(ji4))),.int .i64 (Int.tmod (wrap64 (a1)) (ji6))] 41 (0,0)) (by (with_reducible repeat (first|refine blk_drewN ?_ _|refine blk_drew ?_|refine blk_alloc ?_ _));exact BK173.out) hb);have n5_:=aMx13 (blk_below (g:=gb174) (o:=.cells #[.int .i64 (wrap64 (-(ji4))),.int .i64 (Int.tmod (wrap64 (a2)) (ji6))] 41 (0,0)) (by (with_reducible repeat (first|refine blk_drewN ?_ _|refine blk_drew ?_|refine blk_alloc ?_ _));exact BK174.out) hb);have n6_:=aMx13 (below_step (by repeat (first|(with_reducible first|exact HB.out|apply below_alloc|apply pw_below_drewN|apply below_drew1|refine below_set ?_ GE173.out|refine below_set ?_ GE174.out)|exact HB.out)) hb);clear HO177;clear HO181;clear HO184;clear BK173;clear BK174;clear HB;have HO177:=n0_;have HO181:=n1_;have HO184:=n2_;have HO188:=n3_;have BK173:=n4_;have BK174:=n5_;have HB:=n6_;clear n0_ n1_ n2_ n3_ n4_ n5_ n6_;(try clear hb);(try clear hb2);(try clear hk);(try clear hi);(try clear ho0))|((with_reducible refine gate_dst (N:=51) rfl ?_);(try (refine gate_guard (by rfl) ?_;dsimp only));refine Kd.R_lit (Kd.int .i64) _ 3 ?hg (N:=51) ?hd (xs:=([wrap64 (-(ji4))] : List Int)) (inner:=[.int .i64 (wrap64 (-(ji4)))]) (ok:=fun _ => True) (okp:=fun _ => True) ?hr ?hp (fun _ hk => hk) trivial (Below.refl _ _) (Nat.le_refl _) (by simp) ?_;(case hd => rfl);(case hg => rfl);(case hr => first|(go_simp;done)|(go_simp;rfl));(case hp => exact (Reps.one (show Kd.M (Kd.int .i64) _ _ _ (wrap64 (-(ji4))) [.int .i64 (wrap64 (-(ji4)))] from rfl) (Reps.none _ _)));intro v190 w63 ho64 hb hg_ hnew_;clear hg_ hnew_;(first|rw [← Ny189.out] at ho64|(simp only [Int.reduceToNat] at ho64;rw [← Ny189.out] at ho64));have n0_:=aMx13 (Kd.R_below (by (with_reducible repeat (first|apply Kd.R_alloc|apply Kd.R_drewN|apply Kd.R_drew));exact HO177.out) hb);have n1_:=aMx13 (Kd.R_below (by (with_reducible repeat (first|apply Kd.R_alloc|apply Kd.R_drewN|apply Kd.R_drew));exact HO181.out) hb);have n2_:=aMx13 (Kd.R_below (by (with_reducible repeat (first|apply Kd.R_alloc|apply Kd.R_drewN|apply Kd.R_drew));exact HO184.out) hb);have n3_:=aMx13 (Kd.R_below (by (with_reducible repeat (first|apply Kd.R_alloc|apply Kd.R_drewN|apply Kd.R_drew));exact HO188.out) hb);have n4_:=aMx13 (Kd.R_lower ho64 (below_size (by repeat (first|(with_reducible first|exact HB.out|apply below_alloc|apply pw_below_drewN|apply below_drew1|refine below_set ?_ GE173.out|refine below_set ?_ GE174.out)|exact HB.out))));have n5_:=aMx13 (blk_below (g:=gb173) (o:=.cells #[.int .i64 (wrap64 (-(ji4))),.int .i64 (Int.tmod (wrap64 (a1)) (ji6))] 41 (0,0)) (by (with_reducible repeat (first|refine blk_drewN ?_ _|refine blk_drew ?_|refine blk_alloc ?_ _));exact BK173.out) hb);have n6_:=aMx13 (blk_below (g:=gb174) (o:=.cells #[.int .i64 (wrap64 (-(ji4))),.int .i64 (Int.tmod (wrap64 (a2)) (ji6))] 41 (0,0)) (by (with_reducible repeat (first|refine blk_drewN ?_ _|refine blk_drew ?_|refine blk_alloc ?_ _));exact BK174.out) hb);have n7_:=aMx13 (below_step (by repeat (first|(with_reducible first|exact HB.out|apply below_alloc|apply pw_below_drewN|apply below_drew1|refine below_set ?_ GE173.out|refine below_set ?_ GE174.out)|exact HB.out)) hb);clear HO177;clear HO181;clear HO184;clear HO188;clear BK173;clear BK174;clear HB;have HO177:=n0_;have HO181:=n1_;have HO184:=n2_;have HO188:=n3_;have HO191:=n4_;have BK173:=n5_;have BK174:=n6_;have HB:=n7_;clear n0_ n1_ n2_ n3_ n4_ n5_ n6_ n7_;clear hb ho64;obtain ⟨Ao65,co65,eo65⟩:=Kd.R_slice HO191.out;subst eo65;obtain ⟨Ao66,co66,eo66⟩:=Kd.R_slice HO181.out;subst eo66)|((with_reducible refine gate_callee (f:=15) rfl ?_);refine goesL_ (some 53) rfl rfl Try.func15 (by kernel_rfl) rfl #[.slice none 0 0,.slice Ao65 y189.length co65,.slice Ao66 t178.length co66] rfl (by (try simp only [List.map_toArray,List.map_cons,List.map_nil]);first|done|rfl|(simp only [List.length_drop,List.length_take];rfl)) ?_;(refine (coder_Decode.calls _ _ ([] : List Int) _ _ y189 _ _ t178 t192 t193 _ ?side1 ?side2 ?side3 ?side4 ?side5 ?side6 A12.out).mono ?_);(case side1 => exact Kd.C_nil _ _);(case side2 => exact Nat.le_refl _);(case side3 => repeat (first|exact (Kd.R_reads' HO191.out).2.2|(with_reducible first|refine Kd.C_alloc ?_ _|refine Kd.C_drewN ?_ _|refine Kd.C_drew ?_)));(case side4 => exact (Kd.R_reads' HO191.out).2.1);(case side5 => repeat (first|exact (Kd.R_reads' HO181.out).2.2|(with_reducible first|refine Kd.C_alloc ?_ _|refine Kd.C_drewN ?_ _|refine Kd.C_drew ?_)));(case side6 => exact (Kd.R_reads' HO181.out).2.1);rintro e w67 ⟨v194,rfl,ho0,hb⟩;refine ⟨_,rfl,?_⟩;have n0_:=aMx13 (Kd.R_elder' (by (with_reducible repeat (first|apply Kd.R_alloc|apply Kd.R_drewN|apply Kd.R_drew));exact HO177.out) (Kd.R_base ho0) hb);have n1_:=aMx13 (Kd.R_below (by (with_reducible repeat (first|apply Kd.R_alloc|apply Kd.R_drewN|apply Kd.R_drew));exact HO181.out) hb);have n2_:=aMx13 (Kd.R_elder' (by (with_reducible repeat (first|apply Kd.R_alloc|apply Kd.R_drewN|apply Kd.R_drew));exact HO184.out) (Kd.R_base ho0) hb);have n3_:=aMx13 (Kd.R_below (by (with_reducible repeat (first|apply Kd.R_alloc|apply Kd.R_drewN|apply Kd.R_drew));exact HO188.out) hb);have n4_:=aMx13 (Kd.R_below (by (with_reducible repeat (first|apply Kd.R_alloc|apply Kd.R_drewN|apply Kd.R_drew));exact HO191.out) hb);have n5_:=aMx13 (Kd.R_lower (Kd.R_newB (Kd.R_newB (Kd.R_new' (Kd.R_new' ho0 (Kd.R_lt (by (with_reducible repeat (first|apply Kd.R_alloc|apply Kd.R_drewN|apply Kd.R_drew));exact HO177.out))) (Kd.R_lt (by (with_reducible repeat (first|apply Kd.R_alloc|apply Kd.R_drewN|apply Kd.R_drew));exact HO184.out))) (g:=gb173) (o:=.cells #[.int .i64 (wrap64 (-(ji4))),.int .i64 (Int.tmod (wrap64 (a1)) (ji6))] 41 (0,0)) (by (with_reducible repeat (first|refine blk_drewN ?_ _|refine blk_drew ?_|refine blk_alloc ?_ _));exact BK173.out)) (g:=gb174) (o:=.cells #[.int .i64 (wrap64 (-(ji4))),.int .i64 (Int.tmod (wrap64 (a2)) (ji6))] 41 (0,0)) (by (with_reducible repeat (first|refine blk_drewN ?_ _|refine blk_drew ?_|refine blk_alloc ?_ _));exact BK174.out)) (below_size (by repeat (first|(with_reducible first|exact HB.out|apply below_alloc|apply pw_below_drewN|apply below_drew1|refine below_set ?_ GE173.out|refine below_set ?_ GE174.out)|exact HB.out))));have n6_:=aMx13 (blk_below (g:=gb173) (o:=.cells #[.int .i64 (wrap64 (-(ji4))),.int .i64 (Int.tmod (wrap64 (a1)) (ji6))] 41 (0,0)) (by (with_reducible repeat (first|refine blk_drewN ?_ _|refine blk_drew ?_|refine blk_alloc ?_ _));exact BK173.out) hb);have n7_:=aMx13 (blk_below (g:=gb174) (o:=.cells #[.int .i64 (wrap64 (-(ji4))),.int .i64 (Int.tmod (wrap64 (a2)) (ji6))] 41 (0,0)) (by (with_reducible repeat (first|refine blk_drewN ?_ _|refine blk_drew ?_|refine blk_alloc ?_ _));exact BK174.out) hb);have n8_:=aMx13 (below_step (by repeat (first|(with_reducible first|exact HB.out|apply below_alloc|apply pw_below_drewN|apply below_drew1|refine below_set ?_ GE173.out|refine below_set ?_ GE174.out)|exact HB.out)) hb);clear HO177;clear HO181;clear HO184;clear HO188;clear HO191;clear BK173;clear BK174;clear HB;have HO177:=n0_;have HO181:=n1_;have HO184:=n2_;have HO188:=n3_;have HO191:=n4_;have HO195:=n5_;have BK173:=n6_;have BK174:=n7_;have HB:=n8_;clear n0_ n1_ n2_ n3_ n4_ n5_ n6_ n7_ n8_;(try clear hb);(try clear hb2);(try clear hk);(try clear hi);(try clear ho0)))
        have n0_:=aMx13 (Kd.R_drew HO177.out)
        have n1_:=aMx13 (Kd.R_drew HO181.out)
        have n2_:=aMx13 (Kd.R_drew HO184.out)
        have n3_:=aMx13 (Kd.R_drew HO188.out)
        have n4_:=aMx13 (Kd.R_drew HO191.out)
        have n5_:=aMx13 (Kd.R_drew HO195.out)
        have n6_:=aMx13 (blk_drew BK173.out)
        have n7_:=aMx13 (blk_drew BK174.out)
        have n8_:=aMx13 (below_drew1 HB.out)
        clear HO177
        clear HO181
        clear HO184
        clear HO188
        clear HO191
        clear HO195
        clear BK173
        clear BK174
        clear HB
        have HO177:=n0_
        have HO181:=n1_
        have HO184:=n2_
        have HO188:=n3_
        have HO191:=n4_
        have HO195:=n5_
        have BK173:=n6_
        have BK174:=n7_
        have HB:=n8_
        clear n0_ n1_ n2_ n3_ n4_ n5_ n6_ n7_ n8_
        refine start_ (n:=29) (S:=fun w' => w'.cell? ⟨gb173,0,none⟩ = some (.int .i64 (wrap64 (-(ji4)))) ∧ w'.cell? ⟨gb173,1,none⟩ = some (.int .i64 (Int.tmod (wrap64 (a1)) (ji6))) ∧ w'.cell? ⟨gb174,0,none⟩ = some (.int .i64 (wrap64 (-(ji4)))) ∧ w'.cell? ⟨gb174,1,none⟩ = some (.int .i64 (Int.tmod (wrap64 (a2)) (ji6)))) (ds:=[]) #[false,false,false,false,false,false,false,false,false,false,false,false,false,false,false,false,false,false,false,false,false,false,false,false,false,false,false,false,false] (by kernel_rfl) rfl rfl ⟨(blk_cell BK173.out 0).trans rfl,(blk_cell BK173.out 1).trans rfl,(blk_cell BK174.out 0).trans rfl,(blk_cell BK174.out 1).trans rfl⟩ (fun hHeld => ?_);refine with_tabW lapidarylaw06_CoderPlain.tab7 lapidarylaw06_CoderPlain.bits7 (fun HT_ HW_ => ?_)
        generalize w67.drew = w68 at HO177 HO181 HO184 HO188 HO191 HO195 BK173 BK174 HB hHeld ⊢
        refine pure_ (i:=0) (N:=some 56) (v:=?_) (a':=?_) #[true,false,false,false,false,false,false,false,false,false,false,false,false,false,false,false,false,false,false,false,false,false,false,false,false,false,false,false,false] rfl rfl (any_of HT_.out (by kernel_rfl)) (fun _ _ _ h => h) (Or.inl ⟨by rfl,?_⟩) ?_ ?_
        rotate_left
        ·intro w'
         go_simp
         with_reducible rfl
        rotate_left
        ·simp only [Act.put,sAx13,sBx13,sCx13,i64_w,i32_w]
         rfl
        refine pure_ (i:=1) (N:=some 57) (v:=?_) (a':=?_) #[true,true,false,false,false,false,false,false,false,false,false,false,false,false,false,false,false,false,false,false,false,false,false,false,false,false,false,false,false] rfl rfl (any_of HT_.out (by kernel_rfl)) (fun _ _ _ h => h) (Or.inl ⟨by rfl,?_⟩) ?_ ?_
        rotate_left
        ·intro w'
         go_simp
         with_reducible rfl
        rotate_left
        ·simp only [Act.put,sAx13,sBx13,sCx13,i64_w,i32_w]
         rfl
        refine pure_ (i:=2) (N:=some 58) (v:=?_) (a':=?_) #[true,true,true,false,false,false,false,false,false,false,false,false,false,false,false,false,false,false,false,false,false,false,false,false,false,false,false,false,false] rfl rfl (any_of HT_.out (by kernel_rfl)) (fun _ _ _ h => h) (Or.inl ⟨by rfl,?_⟩) ?_ ?_
        rotate_left
        ·intro w'
         go_simp
         with_reducible rfl
        rotate_left
        ·simp only [Act.put,sAx13,sBx13,sCx13,i64_w,i32_w]
         rfl
        refine pure_ (i:=3) (N:=some 59) (v:=?_) (a':=?_) #[true,true,true,true,false,false,false,false,false,false,false,false,false,false,false,false,false,false,false,false,false,false,false,false,false,false,false,false,false] rfl rfl (any_of HT_.out (by kernel_rfl)) (fun _ _ _ h => h) (Or.inl ⟨by rfl,?_⟩) ?_ ?_
        rotate_left
        ·intro w'
         go_simp
         with_reducible rfl
        rotate_left
        ·simp only [Act.put,sAx13,sBx13,sCx13,i64_w,i32_w]
         rfl
        refine pure_ (i:=4) (N:=some 60) (v:=?_) (a':=?_) #[true,true,true,true,true,false,false,false,false,false,false,false,false,false,false,false,false,false,false,false,false,false,false,false,false,false,false,false,false] rfl rfl (any_of HT_.out (by kernel_rfl)) (fun _ _ _ h => h) (Or.inl ⟨by rfl,?_⟩) ?_ ?_
        rotate_left
        ·intro w'
         go_simp
         with_reducible rfl
        rotate_left
        ·simp only [Act.put,sAx13,sBx13,sCx13,i64_w,i32_w]
         rfl
        refine pure_ (i:=5) (N:=some 61) (v:=?_) (a':=?_) #[true,true,true,true,true,true,false,false,false,false,false,false,false,false,false,false,false,false,false,false,false,false,false,false,false,false,false,false,false] rfl rfl (any_of HT_.out (by kernel_rfl)) (fun _ _ _ h => h) (Or.inl ⟨by rfl,?_⟩) ?_ ?_
        rotate_left
        ·intro w'
         go_simp
         with_reducible rfl
        rotate_left
        ·simp only [Act.put,sAx13,sBx13,sCx13,i64_w,i32_w]
         rfl
        refine pure_ (i:=6) (N:=some 62) (v:=?_) (a':=?_) #[true,true,true,true,true,true,true,false,false,false,false,false,false,false,false,false,false,false,false,false,false,false,false,false,false,false,false,false,false] rfl rfl (any_of HT_.out (by kernel_rfl)) (fun _ _ _ h => h) (Or.inl ⟨by rfl,?_⟩) ?_ ?_
        rotate_left
        ·intro w'
         go_simp
         with_reducible rfl
        rotate_left
        ·simp only [Act.put,sAx13,sBx13,sCx13,i64_w,i32_w]
         rfl
        refine pure_ (i:=7) (N:=some 63) (v:=?_) (a':=?_) #[true,true,true,true,true,true,true,true,false,false,false,false,false,false,false,false,false,false,false,false,false,false,false,false,false,false,false,false,false] rfl rfl (any_of HT_.out (by kernel_rfl)) (fun _ _ _ h => h) (Or.inl ⟨by rfl,?_⟩) ?_ ?_
        rotate_left
        ·intro w'
         go_simp
         with_reducible rfl
        rotate_left
        ·simp only [Act.put,sAx13,sBx13,sCx13,i64_w,i32_w]
         rfl
        refine pure_ (i:=8) (N:=some 64) (v:=?_) (a':=?_) #[true,true,true,true,true,true,true,true,true,false,false,false,false,false,false,false,false,false,false,false,false,false,false,false,false,false,false,false,false] rfl rfl (any_of HT_.out (by kernel_rfl)) (fun _ _ _ h => h) (Or.inl ⟨by rfl,?_⟩) ?_ ?_
        rotate_left
        ·intro w'
         go_simp
         with_reducible rfl
        rotate_left
        ·simp only [Act.put,sAx13,sBx13,sCx13,i64_w,i32_w]
         rfl
        refine pure_ (i:=9) (N:=some 65) (v:=?_) (a':=?_) #[true,true,true,true,true,true,true,true,true,true,false,false,false,false,false,false,false,false,false,false,false,false,false,false,false,false,false,false,false] rfl rfl (any_of HT_.out (by kernel_rfl)) (fun _ _ _ h => h) (Or.inl ⟨by rfl,?_⟩) ?_ ?_
        rotate_left
        ·intro w'
         go_simp
         with_reducible rfl
        rotate_left
        ·simp only [Act.put,sAx13,sBx13,sCx13,i64_w,i32_w]
         rfl
        refine pure_ (i:=10) (N:=some 66) (v:=?_) (a':=?_) #[true,true,true,true,true,true,true,true,true,true,true,false,false,false,false,false,false,false,false,false,false,false,false,false,false,false,false,false,false] rfl rfl (any_of HT_.out (by kernel_rfl)) (fun _ _ _ h => h) (Or.inl ⟨by rfl,?_⟩) ?_ ?_
        rotate_left
        ·intro w'
         go_simp
         with_reducible rfl
        rotate_left
        ·simp only [Act.put,sAx13,sBx13,sCx13,i64_w,i32_w]
         rfl
        refine pure_ (i:=11) (N:=some 67) (v:=?_) (a':=?_) #[true,true,true,true,true,true,true,true,true,true,true,true,false,false,false,false,false,false,false,false,false,false,false,false,false,false,false,false,false] rfl rfl (any_of HT_.out (by kernel_rfl)) (fun _ _ _ h => h) (Or.inl ⟨by rfl,?_⟩) ?_ ?_
        rotate_left
        ·intro w'
         go_simp
         with_reducible rfl
        rotate_left
        ·simp only [Act.put,sAx13,sBx13,sCx13,i64_w,i32_w]
         rfl
        refine take_ (i:=12) (N:=some 68) (v:=?_) (a':=?_) #[true,true,true,true,true,true,true,true,true,true,true,true,true,false,false,false,false,false,false,false,false,false,false,false,false,false,false,false,false] rfl rfl (take_ofW HT_.out HW_.out (by kernel_rfl)) (fun _ _ _ h => h) (Or.inl ⟨by rfl,?_⟩) hHeld ?_ ?_
        rotate_left
        ·rintro w' ⟨s0,s1,s2,s3⟩
         go_simp
         with_reducible rfl
        rotate_left
        ·simp only [Act.put,sAx13,sBx13,sCx13,i64_w,i32_w]
         rfl
        refine one_ (i:=13) (N:=some 69) #[true,true,true,true,true,true,true,true,true,true,true,true,true,true,false,false,false,false,false,false,false,false,false,false,false,false,false,false,false] rfl rfl (one_of HT_.out (by kernel_rfl)) (by decide) (fun K hK => ?_)
        refine Kd.R_lit_step k41 _ 41 ?hg (N:=69) ?hd (xs:=([(⟨wrap64 (-(ji4)),Int.tmod (wrap64 (a1)) (ji6)⟩ : S41)] : List (S41))) (inner:=[.int .i64 (wrap64 (-(ji4))),.int .i64 (Int.tmod (wrap64 (a1)) (ji6))]) (ok:=fun _ => True) (okp:=fun _ => True) ?hr ?hp (fun _ hk => hk) trivial (Below.refl _ _) (Nat.le_refl _) (by simp) ?_;(case hd => rfl);(case hg => rfl);(case hr => first | (go_simp;done) | (go_simp;rfl));(case hp => exact (Reps.c2 (show Kd.M k41 _ _ _ (⟨wrap64 (-(ji4)),Int.tmod (wrap64 (a1)) (ji6)⟩ : S41) [.int .i64 (wrap64 (-(ji4))),.int .i64 (Int.tmod (wrap64 (a1)) (ji6))] from (k41_mkM _ _ _ (⟨wrap64 (-(ji4)),Int.tmod (wrap64 (a1)) (ji6)⟩ : S41) )) (Reps.none _ _)))
        intro v197 w69 ho70 hb hg_ hnew_
        clear hg_ hnew_
        (first | rw [← Ny196.out] at ho70 | (simp only [Int.reduceToNat] at ho70;rw [← Ny196.out] at ho70))
        have n0_:=aMx13 (Kd.R_elder' (by (with_reducible repeat (first | apply Kd.R_alloc | apply Kd.R_drewN | apply Kd.R_drew));exact HO177.out) (Kd.R_base ho70) hb)
        have n1_:=aMx13 (Kd.R_below (by (with_reducible repeat (first | apply Kd.R_alloc | apply Kd.R_drewN | apply Kd.R_drew));exact HO181.out) hb)
        have n2_:=aMx13 (Kd.R_elder' (by (with_reducible repeat (first | apply Kd.R_alloc | apply Kd.R_drewN | apply Kd.R_drew));exact HO184.out) (Kd.R_base ho70) hb)
        have n3_:=aMx13 (Kd.R_below (by (with_reducible repeat (first | apply Kd.R_alloc | apply Kd.R_drewN | apply Kd.R_drew));exact HO188.out) hb)
        have n4_:=aMx13 (Kd.R_below (by (with_reducible repeat (first | apply Kd.R_alloc | apply Kd.R_drewN | apply Kd.R_drew));exact HO191.out) hb)
        have n5_:=aMx13 (Kd.R_elder' (by (with_reducible repeat (first | apply Kd.R_alloc | apply Kd.R_drewN | apply Kd.R_drew));exact HO195.out) (Kd.R_base ho70) hb)
        have n6_:=aMx13 (Kd.R_lower (Kd.R_newB (Kd.R_newB (Kd.R_new' (Kd.R_new' (Kd.R_new' ho70 (Kd.R_lt (by (with_reducible repeat (first | apply Kd.R_alloc | apply Kd.R_drewN | apply Kd.R_drew));exact HO177.out))) (Kd.R_lt (by (with_reducible repeat (first | apply Kd.R_alloc | apply Kd.R_drewN | apply Kd.R_drew));exact HO184.out))) (Kd.R_lt (by (with_reducible repeat (first | apply Kd.R_alloc | apply Kd.R_drewN | apply Kd.R_drew));exact HO195.out))) (g:=gb173) (o:=.cells #[.int .i64 (wrap64 (-(ji4))),.int .i64 (Int.tmod (wrap64 (a1)) (ji6))] 41 (0,0)) (by (with_reducible repeat (first | refine blk_drewN ?_ _ | refine blk_drew ?_ | refine blk_alloc ?_ _));exact BK173.out)) (g:=gb174) (o:=.cells #[.int .i64 (wrap64 (-(ji4))),.int .i64 (Int.tmod (wrap64 (a2)) (ji6))] 41 (0,0)) (by (with_reducible repeat (first | refine blk_drewN ?_ _ | refine blk_drew ?_ | refine blk_alloc ?_ _));exact BK174.out)) (below_size (by repeat (first | (with_reducible first | exact HB.out | apply below_alloc | apply pw_below_drewN | apply below_drew1 | refine below_set ?_ GE173.out | refine below_set ?_ GE174.out) | exact HB.out))))
        have n7_:=aMx13 (blk_below (g:=gb173) (o:=.cells #[.int .i64 (wrap64 (-(ji4))),.int .i64 (Int.tmod (wrap64 (a1)) (ji6))] 41 (0,0)) (by (with_reducible repeat (first | refine blk_drewN ?_ _ | refine blk_drew ?_ | refine blk_alloc ?_ _));exact BK173.out) hb)
        have n8_:=aMx13 (blk_below (g:=gb174) (o:=.cells #[.int .i64 (wrap64 (-(ji4))),.int .i64 (Int.tmod (wrap64 (a2)) (ji6))] 41 (0,0)) (by (with_reducible repeat (first | refine blk_drewN ?_ _ | refine blk_drew ?_ | refine blk_alloc ?_ _));exact BK174.out) hb)
        have n9_:=aMx13 (below_step (by repeat (first | (with_reducible first | exact HB.out | apply below_alloc | apply pw_below_drewN | apply below_drew1 | refine below_set ?_ GE173.out | refine below_set ?_ GE174.out) | exact HB.out)) hb)
        clear HO177
        clear HO181
        clear HO184
        clear HO188
        clear HO191
        clear HO195
        clear BK173
        clear BK174
        clear HB
        have HO177:=n0_
        have HO181:=n1_
        have HO184:=n2_
        have HO188:=n3_
        have HO191:=n4_
        have HO195:=n5_
        have HO198:=n6_
        have BK173:=n7_
        have BK174:=n8_
        have HB:=n9_
        clear n0_ n1_ n2_ n3_ n4_ n5_ n6_ n7_ n8_ n9_
        clear hb ho70
        obtain ⟨Ao71,co71,eo71⟩:=Kd.R_slice HO195.out
        (first | subst eo71 | (injection eo71 with f1_ f2_ f3_;have f4_:=f1_.symm;have f5_:=f3_.symm;clear f1_ f2_ f3_;subst f4_;subst f5_))
        obtain ⟨Ao72,co72,eo72⟩:=Kd.R_slice HO198.out
        (first | subst eo72 | (injection eo72 with f1_ f2_ f3_;have f4_:=f1_.symm;have f5_:=f3_.symm;clear f1_ f2_ f3_;subst f4_;subst f5_))
        refine hK.out _ _ ⟨(blk_cell BK173.out 0).trans rfl,(blk_cell BK173.out 1).trans rfl,(blk_cell BK174.out 0).trans rfl,(blk_cell BK174.out 1).trans rfl⟩ (fun hHeld => ?_)
        clear hK K
        refine norm_ (a':=?_) ?_ ?_
        rotate_left
        ·show Act.put _ (some 69) _ = _
         simp only [Act.put,sAx13,sBx13,sCx13,i64_w,i32_w]
         rfl
        refine one_ (i:=14) (N:=some 70) #[true,true,true,true,true,true,true,true,true,true,true,true,true,true,true,false,false,false,false,false,false,false,false,false,false,false,false,false,false] rfl rfl (one_of HT_.out (by kernel_rfl)) (by decide) (fun K hK => ?_)
        refine goes_ Try.func17 (by kernel_rfl) rfl #[.slice Ao71 t192.length co71,.slice Ao72 y196.length co72] (by rfl) rfl rfl (by (try simp only [List.map_toArray,List.map_cons,List.map_nil]);first | done | rfl | (simp only [List.length_drop,List.length_take];rfl)) ?_
        with_reducible refine (lapidaryref06_Same.calls k _ _ t192 _ _ y196 true _ ?side1 ?side2 ?side3 ?side4 A16.out).mono ?_
        (case side1 => repeat (first|exact (Kd.R_reads' HO195.out).2.2|(with_reducible first|refine Kd.C_alloc ?_ _|refine Kd.C_drewN ?_ _|refine Kd.C_drew ?_)))
        (case side2 => exact (Kd.R_reads' HO195.out).2.1)
        (case side3 => repeat (first|exact (Kd.R_reads' HO198.out).2.2|(with_reducible first|refine Kd.C_alloc ?_ _|refine Kd.C_drewN ?_ _|refine Kd.C_drew ?_)))
        (case side4 => exact (Kd.R_reads' HO198.out).2.1)
        rintro e w' ⟨rfl,⟨nd,rfl⟩⟩
        refine ⟨_,rfl,?_⟩
        obtain ⟨Ao73,co73,eo73⟩:=Kd.R_slice HO188.out
        (first | subst eo73 | (injection eo73 with f1_ f2_ f3_;have f4_:=f1_.symm;have f5_:=f3_.symm;clear f1_ f2_ f3_;subst f4_;subst f5_))
        refine hK.out _ _ ⟨(blk_cell BK173.out 0).trans rfl,(blk_cell BK173.out 1).trans rfl,(blk_cell BK174.out 0).trans rfl,(blk_cell BK174.out 1).trans rfl⟩ (fun hHeld => ?_)
        clear hK K
        refine norm_ (a':=?_) ?_ ?_
        rotate_left
        ·show Act.put _ (some 70) _ = _
         simp only [Act.put,sAx13,sBx13,sCx13,i64_w,i32_w]
         rfl
        refine pure_ (i:=15) (N:=some 71) (v:=?_) (a':=?_) #[true,true,true,true,true,true,true,true,true,true,true,true,true,true,true,true,false,false,false,false,false,false,false,false,false,false,false,false,false] rfl rfl (any_of HT_.out (by kernel_rfl)) (fun _ _ _ h => h) (Or.inl ⟨by rfl,?_⟩) ?_ ?_
        rotate_left
        ·intro w'
         go_simp
         with_reducible rfl
        rotate_left
        ·simp only [Act.put,sAx13,sBx13,sCx13,i64_w,i32_w]
         rfl
        refine pure_ (i:=16) (N:=some 72) (v:=?_) (a':=?_) #[true,true,true,true,true,true,true,true,true,true,true,true,true,true,true,true,true,false,false,false,false,false,false,false,false,false,false,false,false] rfl rfl (any_of HT_.out (by kernel_rfl)) (fun _ _ _ h => h) (Or.inl ⟨by rfl,?_⟩) ?_ ?_
        rotate_left
        ·intro w'
         go_simp
         with_reducible rfl
        rotate_left
        ·simp only [Act.put,sAx13,sBx13,sCx13,i64_w,i32_w]
         rfl
        refine pure_ (i:=17) (N:=some 73) (v:=?_) (a':=?_) #[true,true,true,true,true,true,true,true,true,true,true,true,true,true,true,true,true,true,false,false,false,false,false,false,false,false,false,false,false] rfl rfl (any_of HT_.out (by kernel_rfl)) (fun _ _ _ h => h) (Or.inl ⟨by rfl,?_⟩) ?_ ?_
        rotate_left
        ·intro w'
         go_simp
         with_reducible rfl
        rotate_left
        ·simp only [Act.put,sAx13,sBx13,sCx13,i64_w,i32_w]
         rfl
        refine pure_ (i:=18) (N:=some 74) (v:=?_) (a':=?_) #[true,true,true,true,true,true,true,true,true,true,true,true,true,true,true,true,true,true,true,false,false,false,false,false,false,false,false,false,false] rfl rfl (any_of HT_.out (by kernel_rfl)) (fun _ _ _ h => h) (Or.inl ⟨by rfl,?_⟩) ?_ ?_
        rotate_left
        ·intro w'
         go_simp
         with_reducible rfl
        rotate_left
        ·simp only [Act.put,sAx13,sBx13,sCx13,i64_w,i32_w]
         rfl
        refine take_ (i:=20) (N:=some 76) (v:=?_) (a':=?_) #[true,true,true,true,true,true,true,true,true,true,true,true,true,true,true,true,true,true,true,false,true,false,false,false,false,false,false,false,false] rfl rfl (take_ofW HT_.out HW_.out (by kernel_rfl)) (fun _ _ _ h => h) (Or.inl ⟨by rfl,?_⟩) hHeld ?_ ?_
        rotate_left
        ·rintro w' ⟨s0,s1,s2,s3⟩
         go_simp
         with_reducible rfl
        rotate_left
        ·simp only [Act.put,sAx13,sBx13,sCx13,i64_w,i32_w]
         rfl
        refine take_ (i:=21) (N:=some 77) (v:=?_) (a':=?_) #[true,true,true,true,true,true,true,true,true,true,true,true,true,true,true,true,true,true,true,false,true,true,false,false,false,false,false,false,false] rfl rfl (take_ofW HT_.out HW_.out (by kernel_rfl)) (fun _ _ _ h => h) (Or.inl ⟨by rfl,?_⟩) hHeld ?_ ?_
        rotate_left
        ·rintro w' ⟨s0,s1,s2,s3⟩
         go_simp
         with_reducible rfl
        rotate_left
        ·simp only [Act.put,sAx13,sBx13,sCx13,i64_w,i32_w]
         rfl
        refine pure_ (i:=22) (N:=some 78) (v:=?_) (a':=?_) #[true,true,true,true,true,true,true,true,true,true,true,true,true,true,true,true,true,true,true,false,true,true,true,false,false,false,false,false,false] rfl rfl (any_of HT_.out (by kernel_rfl)) (fun _ _ _ h => h) (Or.inl ⟨by rfl,?_⟩) ?_ ?_
        rotate_left
        ·intro w'
         go_simp
         with_reducible rfl
        rotate_left
        ·simp only [Act.put,sAx13,sBx13,sCx13,i64_w,i32_w]
         rfl
        refine one_ (i:=19) (N:=some 75) #[true,true,true,true,true,true,true,true,true,true,true,true,true,true,true,true,true,true,true,true,true,true,true,false,false,false,false,false,false] rfl rfl (one_of HT_.out (by kernel_rfl)) (by decide) (fun K hK => ?_)
        refine goes_ Try.func14 (by kernel_rfl) rfl #[.slice Ao66 t178.length co66,.slice Ao73 t185.length co73] (by rfl) rfl rfl (by (try simp only [List.map_toArray,List.map_cons,List.map_nil]);first | done | rfl | (simp only [List.length_drop,List.length_take];rfl)) ?_
        with_reducible refine (lapidaryref00_Same.calls _ _ t178 _ _ t185 t200 _ ?side1 ?side2 ?side3 ?side4 A18.out).mono ?_
        (case side1 => repeat (first|exact (Kd.R_reads' HO181.out).2.2|(with_reducible first|refine Kd.C_alloc ?_ _|refine Kd.C_drewN ?_ _|refine Kd.C_drew ?_)))
        (case side2 => exact (Kd.R_reads' HO181.out).2.1)
        (case side3 => repeat (first|exact (Kd.R_reads' HO188.out).2.2|(with_reducible first|refine Kd.C_alloc ?_ _|refine Kd.C_drewN ?_ _|refine Kd.C_drew ?_)))
        (case side4 => exact (Kd.R_reads' HO188.out).2.1)
        rintro e w' ⟨rfl,⟨nd,rfl⟩⟩
        refine ⟨_,rfl,?_⟩
        refine hK.out _ _ ⟨(blk_cell BK173.out 0).trans rfl,(blk_cell BK173.out 1).trans rfl,(blk_cell BK174.out 0).trans rfl,(blk_cell BK174.out 1).trans rfl⟩ (fun hHeld => ?_)
        clear hK K
        refine norm_ (a':=?_) ?_ ?_
        rotate_left
        ·show Act.put _ (some 75) _ = _
         simp only [Act.put,sAx13,sBx13,sCx13,i64_w,i32_w]
         rfl
        refine pure_ (i:=23) (N:=some 79) (v:=?_) (a':=?_) #[true,true,true,true,true,true,true,true,true,true,true,true,true,true,true,true,true,true,true,true,true,true,true,true,false,false,false,false,false] rfl rfl (any_of HT_.out (by kernel_rfl)) (fun _ _ _ h => h) (Or.inl ⟨by rfl,?_⟩) ?_ ?_
        rotate_left
        ·intro w'
         go_simp
         with_reducible rfl
        rotate_left
        ·simp only [Act.put,sAx13,sBx13,sCx13,i64_w,i32_w]
         rfl
        refine pure_ (i:=24) (N:=some 80) (v:=?_) (a':=?_) #[true,true,true,true,true,true,true,true,true,true,true,true,true,true,true,true,true,true,true,true,true,true,true,true,true,false,false,false,false] rfl rfl (any_of HT_.out (by kernel_rfl)) (fun _ _ _ h => h) (Or.inl ⟨by rfl,?_⟩) ?_ ?_
        rotate_left
        ·intro w'
         go_simp
         with_reducible rfl
        rotate_left
        ·simp only [Act.put,sAx13,sBx13,sCx13,i64_w,i32_w]
         rfl
        refine pure_ (i:=25) (N:=some 81) (v:=?_) (a':=?_) #[true,true,true,true,true,true,true,true,true,true,true,true,true,true,true,true,true,true,true,true,true,true,true,true,true,true,false,false,false] rfl rfl (any_of HT_.out (by kernel_rfl)) (fun _ _ _ h => h) (Or.inl ⟨by rfl,?_⟩) ?_ ?_
        rotate_left
        ·intro w'
         go_simp
         with_reducible rfl
        rotate_left
        ·simp only [Act.put,sAx13,sBx13,sCx13,i64_w,i32_w]
         rfl
        refine pure_ (i:=26) (N:=some 82) (v:=undef) (a':=?_) #[true,true,true,true,true,true,true,true,true,true,true,true,true,true,true,true,true,true,true,true,true,true,true,true,true,true,true,false,false] rfl rfl (any_of HT_.out (by kernel_rfl)) (fun _ _ _ h => h) (Or.inr ⟨by rfl,rfl⟩) ?_ ?_
        rotate_left
        ·simp only [Act.put,sAx13,sBx13,sCx13,i64_w,i32_w]
         rfl
        refine pure_ (i:=27) (N:=some 83) (v:=?_) (a':=?_) #[true,true,true,true,true,true,true,true,true,true,true,true,true,true,true,true,true,true,true,true,true,true,true,true,true,true,true,true,false] rfl rfl (any_of HT_.out (by kernel_rfl)) (fun _ _ _ h => h) (Or.inl ⟨by rfl,?_⟩) ?_ ?_
        rotate_left
        ·intro w'
         go_simp
         with_reducible rfl
        rotate_left
        ·simp only [Act.put,sAx13,sBx13,sCx13,i64_w,i32_w]
         rfl
        refine pure_ (i:=28) (N:=some 6) (v:=?_) (a':=?_) #[true,true,true,true,true,true,true,true,true,true,true,true,true,true,true,true,true,true,true,true,true,true,true,true,true,true,true,true,true] rfl rfl (any_of HT_.out (by kernel_rfl)) (fun _ _ _ h => h) (Or.inl ⟨by rfl,?_⟩) ?_ ?_
        rotate_left
        ·intro w'
         go_simp
         with_reducible rfl
        rotate_left
        ·simp only [Act.put,sAx13,sBx13,sCx13,i64_w,i32_w]
         rfl
        refine done_ (done_of HT_.out (by kernel_rfl)) ?_
        try go_wp2
        go_ret
        exact ⟨by first | rfl | (simp [errW_none,errW_some]<;>rfl) | (simp only [← hji4,← hji6];first | rfl | (simp [errW_none,errW_some]<;>rfl)) | (simp [*,errW_none,errW_some]<;>rfl),by repeat (first | (with_reducible first | exact HB.out | apply below_alloc | apply pw_below_drewN | apply below_drew1 | refine below_set ?_ GE173.out | refine below_set ?_ GE174.out) | exact HB.out)⟩
      ·replace c17:=Bool.eq_false_iff.mpr c17
       subst c17
       have H1 : (some false) = some r:=by rw [if_neg (show ¬ (false = true) by decide)] at H;exact H
       clear H
       have H:=H1
       clear H1
       obtain rfl:=Option.some.inj H
       go_enter Try.func8,Try.ntmps8
       try go_wp2_with (first|((with_reducible refine gate_dst (N:=8) rfl ?_);(try (refine gate_guard (by rfl) ?_;dsimp only));refine box_event ?hg (N:=8) ?hd (cs:=#[.int .i64 0,.int .i64 0]) (t:=41) ?hr ?_;(case hd => rfl);(case hg => rfl);(case hr => first|(go_simp;done)|(go_simp;rfl));intro gb173 hg w74 hbox hb;have n0_:=aMx13 (below_step (by repeat (with_reducible first|exact HB.out|apply below_alloc|apply pw_below_drewN|apply below_drew1)) hb);have n1_:=aMx13 (hbox);have n2_:=aMx13 ((by rw [hg];exact (below_size (by repeat (with_reducible first|exact HB.out|apply below_alloc|apply pw_below_drewN|apply below_drew1))) : w.heap.size ≤ gb173));have n3_:=aMx13 ((by rw [hg];exact (below_size (by repeat (with_reducible first|exact HB.out|apply below_alloc|apply pw_below_drewN|apply below_drew1))) : w.heap.size ≤ gb173));clear HB;have HB:=n0_;have BK173:=n1_;have GW173:=n2_;have GE173:=n3_;clear n0_ n1_ n2_ n3_;clear hb hbox hg;have hcz75_0 : w74.cell? ⟨gb173,0,none⟩ = some (.int .i64 0):=(blk_cell BK173.out 0).trans rfl;have hcz75_1 : w74.cell? ⟨gb173,1,none⟩ = some (.int .i64 0):=(blk_cell BK173.out 1).trans rfl;have hfz75_0:=blk_frozen BK173.out 0;have hfz75_1:=blk_frozen BK173.out 1)|((with_reducible refine gate_dst (N:=9) rfl ?_);(try (refine gate_guard (by rfl) ?_;dsimp only));refine box_event ?hg (N:=9) ?hd (cs:=#[.int .i64 0,.int .i64 0]) (t:=41) ?hr ?_;(case hd => rfl);(case hg => rfl);(case hr => first|(go_simp;done)|(go_simp;rfl));intro gb174 hg w76 hbox hb;have n0_:=aMx13 (blk_below (g:=gb173) (o:=.cells #[.int .i64 (wrap64 (-(ji4))),.int .i64 (Int.tmod (wrap64 (a1)) (ji6))] 41 (0,0)) (by (with_reducible repeat (first|refine blk_drewN ?_ _|refine blk_drew ?_|refine blk_alloc ?_ _));refine blk_put (cs:=#[.int .i64 (wrap64 (-(ji4))),.int .i64 0]) ?_ 1 _ rfl;(with_reducible repeat (first|refine blk_drewN ?_ _|refine blk_drew ?_|refine blk_alloc ?_ _));refine blk_put (cs:=#[.int .i64 0,.int .i64 0]) ?_ 0 _ rfl;(with_reducible repeat (first|refine blk_drewN ?_ _|refine blk_drew ?_|refine blk_alloc ?_ _));exact BK173.out) hb);have n1_:=aMx13 (below_step (by repeat (first|(with_reducible first|exact HB.out|apply below_alloc|apply pw_below_drewN|apply below_drew1|refine below_set ?_ GE173.out)|exact HB.out)) hb);have n2_:=aMx13 (hbox);have n3_:=aMx13 ((by rw [hg];exact (below_size (by repeat (first|(with_reducible first|exact HB.out|apply below_alloc|apply pw_below_drewN|apply below_drew1|refine below_set ?_ GE173.out)|exact HB.out))) : w.heap.size ≤ gb174));have n4_:=aMx13 ((by rw [hg];exact (below_size (by repeat (first|(with_reducible first|exact HB.out|apply below_alloc|apply pw_below_drewN|apply below_drew1|refine below_set ?_ GE173.out)|exact HB.out))) : w.heap.size ≤ gb174));have n5_:=aMx13 ((by rw [hg];exact Nat.ne_of_lt (blk_lt (g:=gb173) (o:=.cells #[.int .i64 (wrap64 (-(ji4))),.int .i64 (Int.tmod (wrap64 (a1)) (ji6))] 41 (0,0)) (by (with_reducible repeat (first|refine blk_drewN ?_ _|refine blk_drew ?_|refine blk_alloc ?_ _));refine blk_put (cs:=#[.int .i64 (wrap64 (-(ji4))),.int .i64 0]) ?_ 1 _ rfl;(with_reducible repeat (first|refine blk_drewN ?_ _|refine blk_drew ?_|refine blk_alloc ?_ _));refine blk_put (cs:=#[.int .i64 0,.int .i64 0]) ?_ 0 _ rfl;(with_reducible repeat (first|refine blk_drewN ?_ _|refine blk_drew ?_|refine blk_alloc ?_ _));exact BK173.out)) : gb173 ≠ gb174));have n6_:=aMx13 ((by rw [hg];exact Nat.ne_of_gt (blk_lt (g:=gb173) (o:=.cells #[.int .i64 (wrap64 (-(ji4))),.int .i64 (Int.tmod (wrap64 (a1)) (ji6))] 41 (0,0)) (by (with_reducible repeat (first|refine blk_drewN ?_ _|refine blk_drew ?_|refine blk_alloc ?_ _));refine blk_put (cs:=#[.int .i64 (wrap64 (-(ji4))),.int .i64 0]) ?_ 1 _ rfl;(with_reducible repeat (first|refine blk_drewN ?_ _|refine blk_drew ?_|refine blk_alloc ?_ _));refine blk_put (cs:=#[.int .i64 0,.int .i64 0]) ?_ 0 _ rfl;(with_reducible repeat (first|refine blk_drewN ?_ _|refine blk_drew ?_|refine blk_alloc ?_ _));exact BK173.out)) : gb174 ≠ gb173));clear BK173;clear HB;have BK173:=n0_;have HB:=n1_;have BK174:=n2_;have GW174:=n3_;have GE174:=n4_;have NB173_174:=n5_;have NB174_173:=n6_;clear n0_ n1_ n2_ n3_ n4_ n5_ n6_;clear hb hbox hg;have hnb77:=NB174_173.out;have hnc77:=NB173_174.out;have hcz78_0 : w76.cell? ⟨gb174,0,none⟩ = some (.int .i64 0):=(blk_cell BK174.out 0).trans rfl;have hcz78_1 : w76.cell? ⟨gb174,1,none⟩ = some (.int .i64 0):=(blk_cell BK174.out 1).trans rfl;have hfz78_0:=blk_frozen BK174.out 0;have hfz78_1:=blk_frozen BK174.out 1;have hcz79_0 : w76.cell? ⟨gb173,0,none⟩ = some (.int .i64 (wrap64 (-(ji4)))):=(blk_cell BK173.out 0).trans rfl;have hcz79_1 : w76.cell? ⟨gb173,1,none⟩ = some (.int .i64 (Int.tmod (wrap64 (a1)) (ji6))):=(blk_cell BK173.out 1).trans rfl;have hfz79_0:=blk_frozen BK173.out 0;have hfz79_1:=blk_frozen BK173.out 1)|((with_reducible refine gate_dst (N:=38) rfl ?_);(try (refine gate_guard (by rfl) ?_;dsimp only));refine Kd.R_lit k41 _ 41 ?hg (N:=38) ?hd (xs:=([(⟨wrap64 (-(ji4)),Int.tmod (wrap64 (a1)) (ji6)⟩ : S41)] : List (S41))) (inner:=[.int .i64 (wrap64 (-(ji4))),.int .i64 (Int.tmod (wrap64 (a1)) (ji6))]) (ok:=fun _ => True) (okp:=fun _ => True) ?hr ?hp (fun _ hk => hk) trivial (Below.refl _ _) (Nat.le_refl _) (by simp) ?_;(case hd => rfl);(case hg => rfl);(case hr => first|(go_simp;done)|(go_simp;rfl));(case hp => exact (Reps.c2 (show Kd.M k41 _ _ _ (⟨wrap64 (-(ji4)),Int.tmod (wrap64 (a1)) (ji6)⟩ : S41) [.int .i64 (wrap64 (-(ji4))),.int .i64 (Int.tmod (wrap64 (a1)) (ji6))] from (k41_mkM _ _ _ (⟨wrap64 (-(ji4)),Int.tmod (wrap64 (a1)) (ji6)⟩ : S41) )) (Reps.none _ _)));intro v176 w80 ho81 hb hg_ hnew_;clear hg_ hnew_;(first|rw [← Ny175.out] at ho81|(simp only [Int.reduceToNat] at ho81;rw [← Ny175.out] at ho81));have n0_:=aMx13 (Kd.R_lower (Kd.R_newB (Kd.R_newB ho81 (g:=gb173) (o:=.cells #[.int .i64 (wrap64 (-(ji4))),.int .i64 (Int.tmod (wrap64 (a1)) (ji6))] 41 (0,0)) (by (with_reducible repeat (first|refine blk_drewN ?_ _|refine blk_drew ?_|refine blk_alloc ?_ _));refine blk_far ?_ NB173_174.out _;(with_reducible repeat (first|refine blk_drewN ?_ _|refine blk_drew ?_|refine blk_alloc ?_ _));refine blk_far ?_ NB173_174.out _;(with_reducible repeat (first|refine blk_drewN ?_ _|refine blk_drew ?_|refine blk_alloc ?_ _));exact BK173.out)) (g:=gb174) (o:=.cells #[.int .i64 (wrap64 (-(ji4))),.int .i64 (Int.tmod (wrap64 (a2)) (ji6))] 41 (0,0)) (by (with_reducible repeat (first|refine blk_drewN ?_ _|refine blk_drew ?_|refine blk_alloc ?_ _));refine blk_put (cs:=#[.int .i64 (wrap64 (-(ji4))),.int .i64 0]) ?_ 1 _ rfl;(with_reducible repeat (first|refine blk_drewN ?_ _|refine blk_drew ?_|refine blk_alloc ?_ _));refine blk_put (cs:=#[.int .i64 0,.int .i64 0]) ?_ 0 _ rfl;(with_reducible repeat (first|refine blk_drewN ?_ _|refine blk_drew ?_|refine blk_alloc ?_ _));exact BK174.out)) (below_size (by repeat (first|(with_reducible first|exact HB.out|apply below_alloc|apply pw_below_drewN|apply below_drew1|refine below_set ?_ GE173.out|refine below_set ?_ GE174.out)|exact HB.out))));have n1_:=aMx13 (blk_below (g:=gb173) (o:=.cells #[.int .i64 (wrap64 (-(ji4))),.int .i64 (Int.tmod (wrap64 (a1)) (ji6))] 41 (0,0)) (by (with_reducible repeat (first|refine blk_drewN ?_ _|refine blk_drew ?_|refine blk_alloc ?_ _));refine blk_far ?_ NB173_174.out _;(with_reducible repeat (first|refine blk_drewN ?_ _|refine blk_drew ?_|refine blk_alloc ?_ _));refine blk_far ?_ NB173_174.out _;(with_reducible repeat (first|refine blk_drewN ?_ _|refine blk_drew ?_|refine blk_alloc ?_ _));exact BK173.out) hb);have n2_:=aMx13 (blk_below (g:=gb174) (o:=.cells #[.int .i64 (wrap64 (-(ji4))),.int .i64 (Int.tmod (wrap64 (a2)) (ji6))] 41 (0,0)) (by (with_reducible repeat (first|refine blk_drewN ?_ _|refine blk_drew ?_|refine blk_alloc ?_ _));refine blk_put (cs:=#[.int .i64 (wrap64 (-(ji4))),.int .i64 0]) ?_ 1 _ rfl;(with_reducible repeat (first|refine blk_drewN ?_ _|refine blk_drew ?_|refine blk_alloc ?_ _));refine blk_put (cs:=#[.int .i64 0,.int .i64 0]) ?_ 0 _ rfl;(with_reducible repeat (first|refine blk_drewN ?_ _|refine blk_drew ?_|refine blk_alloc ?_ _));exact BK174.out) hb);have n3_:=aMx13 (below_step (by repeat (first|(with_reducible first|exact HB.out|apply below_alloc|apply pw_below_drewN|apply below_drew1|refine below_set ?_ GE173.out|refine below_set ?_ GE174.out)|exact HB.out)) hb);clear BK173;clear BK174;clear HB;have HO177:=n0_;have BK173:=n1_;have BK174:=n2_;have HB:=n3_;clear n0_ n1_ n2_ n3_;clear hb ho81;obtain ⟨Ao82,co82,eo82⟩:=Kd.R_slice HO177.out;subst eo82)|((with_reducible refine gate_callee (f:=12) rfl ?_);refine goesL_ (some 39) rfl rfl Try.func12 (by kernel_rfl) rfl #[.slice none 0 0,.slice Ao82 y175.length co82] rfl (by (try simp only [List.map_toArray,List.map_cons,List.map_nil]);first|done|rfl|(simp only [List.length_drop,List.length_take];rfl)) ?_;(refine (coder_Encode.calls _ _ ([] : List Int) _ _ y175 t178 t179 _ ?side1 ?side2 ?side3 ?side4 A10.out).mono ?_);(case side1 => exact Kd.C_nil _ _);(case side2 => exact Nat.le_refl _);(case side3 => repeat (first|exact (Kd.R_reads' HO177.out).2.2|(with_reducible first|refine Kd.C_alloc ?_ _|refine Kd.C_drewN ?_ _|refine Kd.C_drew ?_)));(case side4 => exact (Kd.R_reads' HO177.out).2.1);rintro e w83 ⟨v180,rfl,ho0,hb⟩;refine ⟨_,rfl,?_⟩;have n0_:=aMx13 (Kd.R_below (by (with_reducible repeat (first|apply Kd.R_alloc|apply Kd.R_drewN|apply Kd.R_drew));exact HO177.out) hb);have n1_:=aMx13 (Kd.R_lower ho0 (below_size (by repeat (first|(with_reducible first|exact HB.out|apply below_alloc|apply pw_below_drewN|apply below_drew1|refine below_set ?_ GE173.out|refine below_set ?_ GE174.out)|exact HB.out))));have n2_:=aMx13 (blk_below (g:=gb173) (o:=.cells #[.int .i64 (wrap64 (-(ji4))),.int .i64 (Int.tmod (wrap64 (a1)) (ji6))] 41 (0,0)) (by (with_reducible repeat (first|refine blk_drewN ?_ _|refine blk_drew ?_|refine blk_alloc ?_ _));exact BK173.out) hb);have n3_:=aMx13 (blk_below (g:=gb174) (o:=.cells #[.int .i64 (wrap64 (-(ji4))),.int .i64 (Int.tmod (wrap64 (a2)) (ji6))] 41 (0,0)) (by (with_reducible repeat (first|refine blk_drewN ?_ _|refine blk_drew ?_|refine blk_alloc ?_ _));exact BK174.out) hb);have n4_:=aMx13 (below_step (by repeat (first|(with_reducible first|exact HB.out|apply below_alloc|apply pw_below_drewN|apply below_drew1|refine below_set ?_ GE173.out|refine below_set ?_ GE174.out)|exact HB.out)) hb);clear HO177;clear BK173;clear BK174;clear HB;have HO177:=n0_;have HO181:=n1_;have BK173:=n2_;have BK174:=n3_;have HB:=n4_;clear n0_ n1_ n2_ n3_ n4_;(try clear hb);(try clear hb2);(try clear hk);(try clear hi);(try clear ho0);have hcz84_0 : w83.cell? ⟨gb174,0,none⟩ = some (.int .i64 (wrap64 (-(ji4)))):=(blk_cell BK174.out 0).trans rfl;have hcz84_1 : w83.cell? ⟨gb174,1,none⟩ = some (.int .i64 (Int.tmod (wrap64 (a2)) (ji6))):=(blk_cell BK174.out 1).trans rfl;have hfz84_0:=blk_frozen BK174.out 0;have hfz84_1:=blk_frozen BK174.out 1)|((with_reducible refine gate_dst (N:=44) rfl ?_);(try (refine gate_guard (by rfl) ?_;dsimp only));refine Kd.R_lit k41 _ 41 ?hg (N:=44) ?hd (xs:=([(⟨wrap64 (-(ji4)),Int.tmod (wrap64 (a2)) (ji6)⟩ : S41)] : List (S41))) (inner:=[.int .i64 (wrap64 (-(ji4))),.int .i64 (Int.tmod (wrap64 (a2)) (ji6))]) (ok:=fun _ => True) (okp:=fun _ => True) ?hr ?hp (fun _ hk => hk) trivial (Below.refl _ _) (Nat.le_refl _) (by simp) ?_;(case hd => rfl);(case hg => rfl);(case hr => first|(go_simp;done)|(go_simp;rfl));(case hp => exact (Reps.c2 (show Kd.M k41 _ _ _ (⟨wrap64 (-(ji4)),Int.tmod (wrap64 (a2)) (ji6)⟩ : S41) [.int .i64 (wrap64 (-(ji4))),.int .i64 (Int.tmod (wrap64 (a2)) (ji6))] from (k41_mkM _ _ _ (⟨wrap64 (-(ji4)),Int.tmod (wrap64 (a2)) (ji6)⟩ : S41) )) (Reps.none _ _)));intro v183 w85 ho86 hb hg_ hnew_;clear hg_ hnew_;(first|rw [← Ny182.out] at ho86|(simp only [Int.reduceToNat] at ho86;rw [← Ny182.out] at ho86));have n0_:=aMx13 (Kd.R_elder' (by (with_reducible repeat (first|apply Kd.R_alloc|apply Kd.R_drewN|apply Kd.R_drew));exact HO177.out) (Kd.R_base ho86) hb);have n1_:=aMx13 (Kd.R_below (by (with_reducible repeat (first|apply Kd.R_alloc|apply Kd.R_drewN|apply Kd.R_drew));exact HO181.out) hb);have n2_:=aMx13 (Kd.R_lower (Kd.R_newB (Kd.R_newB (Kd.R_new' ho86 (Kd.R_lt (by (with_reducible repeat (first|apply Kd.R_alloc|apply Kd.R_drewN|apply Kd.R_drew));exact HO177.out))) (g:=gb173) (o:=.cells #[.int .i64 (wrap64 (-(ji4))),.int .i64 (Int.tmod (wrap64 (a1)) (ji6))] 41 (0,0)) (by (with_reducible repeat (first|refine blk_drewN ?_ _|refine blk_drew ?_|refine blk_alloc ?_ _));exact BK173.out)) (g:=gb174) (o:=.cells #[.int .i64 (wrap64 (-(ji4))),.int .i64 (Int.tmod (wrap64 (a2)) (ji6))] 41 (0,0)) (by (with_reducible repeat (first|refine blk_drewN ?_ _|refine blk_drew ?_|refine blk_alloc ?_ _));exact BK174.out)) (below_size (by repeat (first|(with_reducible first|exact HB.out|apply below_alloc|apply pw_below_drewN|apply below_drew1|refine below_set ?_ GE173.out|refine below_set ?_ GE174.out)|exact HB.out))));have n3_:=aMx13 (blk_below (g:=gb173) (o:=.cells #[.int .i64 (wrap64 (-(ji4))),.int .i64 (Int.tmod (wrap64 (a1)) (ji6))] 41 (0,0)) (by (with_reducible repeat (first|refine blk_drewN ?_ _|refine blk_drew ?_|refine blk_alloc ?_ _));exact BK173.out) hb);have n4_:=aMx13 (blk_below (g:=gb174) (o:=.cells #[.int .i64 (wrap64 (-(ji4))),.int .i64 (Int.tmod (wrap64 (a2)) (ji6))] 41 (0,0)) (by (with_reducible repeat (first|refine blk_drewN ?_ _|refine blk_drew ?_|refine blk_alloc ?_ _));exact BK174.out) hb);have n5_:=aMx13 (below_step (by repeat (first|(with_reducible first|exact HB.out|apply below_alloc|apply pw_below_drewN|apply below_drew1|refine below_set ?_ GE173.out|refine below_set ?_ GE174.out)|exact HB.out)) hb);clear HO177;clear HO181;clear BK173;clear BK174;clear HB;have HO177:=n0_;have HO181:=n1_;have HO184:=n2_;have BK173:=n3_;have BK174:=n4_;have HB:=n5_;clear n0_ n1_ n2_ n3_ n4_ n5_;clear hb ho86;obtain ⟨Ao87,co87,eo87⟩:=Kd.R_slice HO184.out;subst eo87)|((with_reducible refine gate_callee (f:=12) rfl ?_);refine goesL_ (some 45) rfl rfl Try.func12 (by kernel_rfl) rfl #[.slice none 0 0,.slice Ao87 y182.length co87] rfl (by (try simp only [List.map_toArray,List.map_cons,List.map_nil]);first|done|rfl|(simp only [List.length_drop,List.length_take];rfl)) ?_;(refine (coder_Encode.calls _ _ ([] : List Int) _ _ y182 t185 t186 _ ?side1 ?side2 ?side3 ?side4 A11.out).mono ?_);(case side1 => exact Kd.C_nil _ _);(case side2 => exact Nat.le_refl _);(case side3 => repeat (first|exact (Kd.R_reads' HO184.out).2.2|(with_reducible first|refine Kd.C_alloc ?_ _|refine Kd.C_drewN ?_ _|refine Kd.C_drew ?_)));(case side4 => exact (Kd.R_reads' HO184.out).2.1);rintro e w88 ⟨v187,rfl,ho0,hb⟩;refine ⟨_,rfl,?_⟩;have n0_:=aMx13 (Kd.R_below (by (with_reducible repeat (first|apply Kd.R_alloc|apply Kd.R_drewN|apply Kd.R_drew));exact HO177.out) hb);have n1_:=aMx13 (Kd.R_elder' (by (with_reducible repeat (first|apply Kd.R_alloc|apply Kd.R_drewN|apply Kd.R_drew));exact HO181.out) (Kd.R_base ho0) hb);have n2_:=aMx13 (Kd.R_below (by (with_reducible repeat (first|apply Kd.R_alloc|apply Kd.R_drewN|apply Kd.R_drew));exact HO184.out) hb);have n3_:=aMx13 (Kd.R_lower (Kd.R_new' ho0 (Kd.R_lt (by (with_reducible repeat (first|apply Kd.R_alloc|apply Kd.R_drewN|apply Kd.R_drew));exact HO181.out))) (below_size (by repeat (first|(with_reducible first|exact HB.out|apply below_alloc|apply pw_below_drewN|apply below_drew1|refine below_set ?_ GE173.out|refine below_set ?_ GE174.out)|exact HB.out))));have n4_:=aMx13 (blk_below (g:=gb173) (o:=.cells #[.int .i64 (wrap64 (-(ji4))),.int .i64 (Int.tmod (wrap64 (a1)) (ji6))] 41 (0,0)) (by (with_reducible repeat (first|refine blk_drewN ?_ _|refine blk_drew ?_|refine blk_alloc ?_ _));exact BK173.out) hb);have n5_:=aMx13 (blk_below (g:=gb174) (o:=.cells #[.int .i64 (wrap64 (-(ji4))),.int .i64 (Int.tmod (wrap64 (a2)) (ji6))] 41 (0,0)) (by (with_reducible repeat (first|refine blk_drewN ?_ _|refine blk_drew ?_|refine blk_alloc ?_ _));exact BK174.out) hb);have n6_:=aMx13 (below_step (by repeat (first|(with_reducible first|exact HB.out|apply below_alloc|apply pw_below_drewN|apply below_drew1|refine below_set ?_ GE173.out|refine below_set ?_ GE174.out)|exact HB.out)) hb);clear HO177;clear HO181;clear HO184;clear BK173;clear BK174;clear HB;have HO177:=n0_;have HO181:=n1_;have HO184:=n2_;have HO188:=n3_;have BK173:=n4_;have BK174:=n5_;have HB:=n6_;clear n0_ n1_ n2_ n3_ n4_ n5_ n6_;(try clear hb);(try clear hb2);(try clear hk);(try clear hi);(try clear ho0))|((with_reducible refine gate_dst (N:=51) rfl ?_);(try (refine gate_guard (by rfl) ?_;dsimp only));refine Kd.R_lit (Kd.int .i64) _ 3 ?hg (N:=51) ?hd (xs:=([wrap64 (-(ji4))] : List Int)) (inner:=[.int .i64 (wrap64 (-(ji4)))]) (ok:=fun _ => True) (okp:=fun _ => True) ?hr ?hp (fun _ hk => hk) trivial (Below.refl _ _) (Nat.le_refl _) (by simp) ?_;(case hd => rfl);(case hg => rfl);(case hr => first|(go_simp;done)|(go_simp;rfl));(case hp => exact (Reps.one (show Kd.M (Kd.int .i64) _ _ _ (wrap64 (-(ji4))) [.int .i64 (wrap64 (-(ji4)))] from rfl) (Reps.none _ _)));intro v190 w89 ho90 hb hg_ hnew_;clear hg_ hnew_;(first|rw [← Ny189.out] at ho90|(simp only [Int.reduceToNat] at ho90;rw [← Ny189.out] at ho90));have n0_:=aMx13 (Kd.R_below (by (with_reducible repeat (first|apply Kd.R_alloc|apply Kd.R_drewN|apply Kd.R_drew));exact HO177.out) hb);have n1_:=aMx13 (Kd.R_below (by (with_reducible repeat (first|apply Kd.R_alloc|apply Kd.R_drewN|apply Kd.R_drew));exact HO181.out) hb);have n2_:=aMx13 (Kd.R_below (by (with_reducible repeat (first|apply Kd.R_alloc|apply Kd.R_drewN|apply Kd.R_drew));exact HO184.out) hb);have n3_:=aMx13 (Kd.R_below (by (with_reducible repeat (first|apply Kd.R_alloc|apply Kd.R_drewN|apply Kd.R_drew));exact HO188.out) hb);have n4_:=aMx13 (Kd.R_lower ho90 (below_size (by repeat (first|(with_reducible first|exact HB.out|apply below_alloc|apply pw_below_drewN|apply below_drew1|refine below_set ?_ GE173.out|refine below_set ?_ GE174.out)|exact HB.out))));have n5_:=aMx13 (blk_below (g:=gb173) (o:=.cells #[.int .i64 (wrap64 (-(ji4))),.int .i64 (Int.tmod (wrap64 (a1)) (ji6))] 41 (0,0)) (by (with_reducible repeat (first|refine blk_drewN ?_ _|refine blk_drew ?_|refine blk_alloc ?_ _));exact BK173.out) hb);have n6_:=aMx13 (blk_below (g:=gb174) (o:=.cells #[.int .i64 (wrap64 (-(ji4))),.int .i64 (Int.tmod (wrap64 (a2)) (ji6))] 41 (0,0)) (by (with_reducible repeat (first|refine blk_drewN ?_ _|refine blk_drew ?_|refine blk_alloc ?_ _));exact BK174.out) hb);have n7_:=aMx13 (below_step (by repeat (first|(with_reducible first|exact HB.out|apply below_alloc|apply pw_below_drewN|apply below_drew1|refine below_set ?_ GE173.out|refine below_set ?_ GE174.out)|exact HB.out)) hb);clear HO177;clear HO181;clear HO184;clear HO188;clear BK173;clear BK174;clear HB;have HO177:=n0_;have HO181:=n1_;have HO184:=n2_;have HO188:=n3_;have HO191:=n4_;have BK173:=n5_;have BK174:=n6_;have HB:=n7_;clear n0_ n1_ n2_ n3_ n4_ n5_ n6_ n7_;clear hb ho90;obtain ⟨Ao91,co91,eo91⟩:=Kd.R_slice HO191.out;subst eo91;obtain ⟨Ao92,co92,eo92⟩:=Kd.R_slice HO181.out;subst eo92)|((with_reducible refine gate_callee (f:=15) rfl ?_);refine goesL_ (some 53) rfl rfl Try.func15 (by kernel_rfl) rfl #[.slice none 0 0,.slice Ao91 y189.length co91,.slice Ao92 t178.length co92] rfl (by (try simp only [List.map_toArray,List.map_cons,List.map_nil]);first|done|rfl|(simp only [List.length_drop,List.length_take];rfl)) ?_;(refine (coder_Decode.calls _ _ ([] : List Int) _ _ y189 _ _ t178 t192 t193 _ ?side1 ?side2 ?side3 ?side4 ?side5 ?side6 A12.out).mono ?_);(case side1 => exact Kd.C_nil _ _);(case side2 => exact Nat.le_refl _);(case side3 => repeat (first|exact (Kd.R_reads' HO191.out).2.2|(with_reducible first|refine Kd.C_alloc ?_ _|refine Kd.C_drewN ?_ _|refine Kd.C_drew ?_)));(case side4 => exact (Kd.R_reads' HO191.out).2.1);(case side5 => repeat (first|exact (Kd.R_reads' HO181.out).2.2|(with_reducible first|refine Kd.C_alloc ?_ _|refine Kd.C_drewN ?_ _|refine Kd.C_drew ?_)));(case side6 => exact (Kd.R_reads' HO181.out).2.1);rintro e w93 ⟨v194,rfl,ho0,hb⟩;refine ⟨_,rfl,?_⟩;have n0_:=aMx13 (Kd.R_elder' (by (with_reducible repeat (first|apply Kd.R_alloc|apply Kd.R_drewN|apply Kd.R_drew));exact HO177.out) (Kd.R_base ho0) hb);have n1_:=aMx13 (Kd.R_below (by (with_reducible repeat (first|apply Kd.R_alloc|apply Kd.R_drewN|apply Kd.R_drew));exact HO181.out) hb);have n2_:=aMx13 (Kd.R_elder' (by (with_reducible repeat (first|apply Kd.R_alloc|apply Kd.R_drewN|apply Kd.R_drew));exact HO184.out) (Kd.R_base ho0) hb);have n3_:=aMx13 (Kd.R_below (by (with_reducible repeat (first|apply Kd.R_alloc|apply Kd.R_drewN|apply Kd.R_drew));exact HO188.out) hb);have n4_:=aMx13 (Kd.R_below (by (with_reducible repeat (first|apply Kd.R_alloc|apply Kd.R_drewN|apply Kd.R_drew));exact HO191.out) hb);have n5_:=aMx13 (Kd.R_lower (Kd.R_newB (Kd.R_newB (Kd.R_new' (Kd.R_new' ho0 (Kd.R_lt (by (with_reducible repeat (first|apply Kd.R_alloc|apply Kd.R_drewN|apply Kd.R_drew));exact HO177.out))) (Kd.R_lt (by (with_reducible repeat (first|apply Kd.R_alloc|apply Kd.R_drewN|apply Kd.R_drew));exact HO184.out))) (g:=gb173) (o:=.cells #[.int .i64 (wrap64 (-(ji4))),.int .i64 (Int.tmod (wrap64 (a1)) (ji6))] 41 (0,0)) (by (with_reducible repeat (first|refine blk_drewN ?_ _|refine blk_drew ?_|refine blk_alloc ?_ _));exact BK173.out)) (g:=gb174) (o:=.cells #[.int .i64 (wrap64 (-(ji4))),.int .i64 (Int.tmod (wrap64 (a2)) (ji6))] 41 (0,0)) (by (with_reducible repeat (first|refine blk_drewN ?_ _|refine blk_drew ?_|refine blk_alloc ?_ _));exact BK174.out)) (below_size (by repeat (first|(with_reducible first|exact HB.out|apply below_alloc|apply pw_below_drewN|apply below_drew1|refine below_set ?_ GE173.out|refine below_set ?_ GE174.out)|exact HB.out))));have n6_:=aMx13 (blk_below (g:=gb173) (o:=.cells #[.int .i64 (wrap64 (-(ji4))),.int .i64 (Int.tmod (wrap64 (a1)) (ji6))] 41 (0,0)) (by (with_reducible repeat (first|refine blk_drewN ?_ _|refine blk_drew ?_|refine blk_alloc ?_ _));exact BK173.out) hb);have n7_:=aMx13 (blk_below (g:=gb174) (o:=.cells #[.int .i64 (wrap64 (-(ji4))),.int .i64 (Int.tmod (wrap64 (a2)) (ji6))] 41 (0,0)) (by (with_reducible repeat (first|refine blk_drewN ?_ _|refine blk_drew ?_|refine blk_alloc ?_ _));exact BK174.out) hb);have n8_:=aMx13 (below_step (by repeat (first|(with_reducible first|exact HB.out|apply below_alloc|apply pw_below_drewN|apply below_drew1|refine below_set ?_ GE173.out|refine below_set ?_ GE174.out)|exact HB.out)) hb);clear HO177;clear HO181;clear HO184;clear HO188;clear HO191;clear BK173;clear BK174;clear HB;have HO177:=n0_;have HO181:=n1_;have HO184:=n2_;have HO188:=n3_;have HO191:=n4_;have HO195:=n5_;have BK173:=n6_;have BK174:=n7_;have HB:=n8_;clear n0_ n1_ n2_ n3_ n4_ n5_ n6_ n7_ n8_;(try clear hb);(try clear hb2);(try clear hk);(try clear hi);(try clear ho0)))
       have n0_:=aMx13 (Kd.R_drew HO177.out)
       have n1_:=aMx13 (Kd.R_drew HO181.out)
       have n2_:=aMx13 (Kd.R_drew HO184.out)
       have n3_:=aMx13 (Kd.R_drew HO188.out)
       have n4_:=aMx13 (Kd.R_drew HO191.out)
       have n5_:=aMx13 (Kd.R_drew HO195.out)
       have n6_:=aMx13 (blk_drew BK173.out)
       have n7_:=aMx13 (blk_drew BK174.out)
       have n8_:=aMx13 (below_drew1 HB.out)
       clear HO177
       clear HO181
       clear HO184
       clear HO188
       clear HO191
       clear HO195
       clear BK173
       clear BK174
       clear HB
       have HO177:=n0_
       have HO181:=n1_
       have HO184:=n2_
       have HO188:=n3_
       have HO191:=n4_
       have HO195:=n5_
       have BK173:=n6_
       have BK174:=n7_
       have HB:=n8_
       clear n0_ n1_ n2_ n3_ n4_ n5_ n6_ n7_ n8_
       refine start_ (n:=29) (S:=fun w' => w'.cell? ⟨gb173,0,none⟩ = some (.int .i64 (wrap64 (-(ji4)))) ∧ w'.cell? ⟨gb173,1,none⟩ = some (.int .i64 (Int.tmod (wrap64 (a1)) (ji6)))) (ds:=[]) #[false,false,false,false,false,false,false,false,false,false,false,false,false,false,false,false,false,false,false,false,false,false,false,false,false,false,false,false,false] (by kernel_rfl) rfl rfl ⟨(blk_cell BK173.out 0).trans rfl,(blk_cell BK173.out 1).trans rfl⟩ (fun hHeld => ?_);refine with_tabW lapidarylaw06_CoderPlain.tab7 lapidarylaw06_CoderPlain.bits7 (fun HT_ HW_ => ?_)
       generalize w93.drew = w94 at HO177 HO181 HO184 HO188 HO191 HO195 BK173 BK174 HB hHeld ⊢
       refine pure_ (i:=0) (N:=some 56) (v:=?_) (a':=?_) #[true,false,false,false,false,false,false,false,false,false,false,false,false,false,false,false,false,false,false,false,false,false,false,false,false,false,false,false,false] rfl rfl (any_of HT_.out (by kernel_rfl)) (fun _ _ _ h => h) (Or.inl ⟨by rfl,?_⟩) ?_ ?_
       rotate_left
       ·intro w'
        go_simp
        with_reducible rfl
       rotate_left
       ·simp only [Act.put,sAx13,sBx13,sCx13,i64_w,i32_w]
        rfl
       refine pure_ (i:=1) (N:=some 57) (v:=?_) (a':=?_) #[true,true,false,false,false,false,false,false,false,false,false,false,false,false,false,false,false,false,false,false,false,false,false,false,false,false,false,false,false] rfl rfl (any_of HT_.out (by kernel_rfl)) (fun _ _ _ h => h) (Or.inl ⟨by rfl,?_⟩) ?_ ?_
       rotate_left
       ·intro w'
        go_simp
        with_reducible rfl
       rotate_left
       ·simp only [Act.put,sAx13,sBx13,sCx13,i64_w,i32_w]
        rfl
       refine pure_ (i:=2) (N:=some 58) (v:=?_) (a':=?_) #[true,true,true,false,false,false,false,false,false,false,false,false,false,false,false,false,false,false,false,false,false,false,false,false,false,false,false,false,false] rfl rfl (any_of HT_.out (by kernel_rfl)) (fun _ _ _ h => h) (Or.inl ⟨by rfl,?_⟩) ?_ ?_
       rotate_left
       ·intro w'
        go_simp
        with_reducible rfl
       rotate_left
       ·simp only [Act.put,sAx13,sBx13,sCx13,i64_w,i32_w]
        rfl
       refine pure_ (i:=3) (N:=some 59) (v:=?_) (a':=?_) #[true,true,true,true,false,false,false,false,false,false,false,false,false,false,false,false,false,false,false,false,false,false,false,false,false,false,false,false,false] rfl rfl (any_of HT_.out (by kernel_rfl)) (fun _ _ _ h => h) (Or.inl ⟨by rfl,?_⟩) ?_ ?_
       rotate_left
       ·intro w'
        go_simp
        with_reducible rfl
       rotate_left
       ·simp only [Act.put,sAx13,sBx13,sCx13,i64_w,i32_w]
        rfl
       refine pure_ (i:=4) (N:=some 60) (v:=?_) (a':=?_) #[true,true,true,true,true,false,false,false,false,false,false,false,false,false,false,false,false,false,false,false,false,false,false,false,false,false,false,false,false] rfl rfl (any_of HT_.out (by kernel_rfl)) (fun _ _ _ h => h) (Or.inl ⟨by rfl,?_⟩) ?_ ?_
       rotate_left
       ·intro w'
        go_simp
        with_reducible rfl
       rotate_left
       ·simp only [Act.put,sAx13,sBx13,sCx13,i64_w,i32_w]
        rfl
       refine pure_ (i:=5) (N:=some 61) (v:=?_) (a':=?_) #[true,true,true,true,true,true,false,false,false,false,false,false,false,false,false,false,false,false,false,false,false,false,false,false,false,false,false,false,false] rfl rfl (any_of HT_.out (by kernel_rfl)) (fun _ _ _ h => h) (Or.inl ⟨by rfl,?_⟩) ?_ ?_
       rotate_left
       ·intro w'
        go_simp
        with_reducible rfl
       rotate_left
       ·simp only [Act.put,sAx13,sBx13,sCx13,i64_w,i32_w]
        rfl
       refine pure_ (i:=6) (N:=some 62) (v:=?_) (a':=?_) #[true,true,true,true,true,true,true,false,false,false,false,false,false,false,false,false,false,false,false,false,false,false,false,false,false,false,false,false,false] rfl rfl (any_of HT_.out (by kernel_rfl)) (fun _ _ _ h => h) (Or.inl ⟨by rfl,?_⟩) ?_ ?_
       rotate_left
       ·intro w'
        go_simp
        with_reducible rfl
       rotate_left
       ·simp only [Act.put,sAx13,sBx13,sCx13,i64_w,i32_w]
        rfl
       refine pure_ (i:=7) (N:=some 63) (v:=?_) (a':=?_) #[true,true,true,true,true,true,true,true,false,false,false,false,false,false,false,false,false,false,false,false,false,false,false,false,false,false,false,false,false] rfl rfl (any_of HT_.out (by kernel_rfl)) (fun _ _ _ h => h) (Or.inl ⟨by rfl,?_⟩) ?_ ?_
       rotate_left
       ·intro w'
        go_simp
        with_reducible rfl
       rotate_left
       ·simp only [Act.put,sAx13,sBx13,sCx13,i64_w,i32_w]
        rfl
       refine pure_ (i:=8) (N:=some 64) (v:=?_) (a':=?_) #[true,true,true,true,true,true,true,true,true,false,false,false,false,false,false,false,false,false,false,false,false,false,false,false,false,false,false,false,false] rfl rfl (any_of HT_.out (by kernel_rfl)) (fun _ _ _ h => h) (Or.inl ⟨by rfl,?_⟩) ?_ ?_
       rotate_left
       ·intro w'
        go_simp
        with_reducible rfl
       rotate_left
       ·simp only [Act.put,sAx13,sBx13,sCx13,i64_w,i32_w]
        rfl
       refine pure_ (i:=9) (N:=some 65) (v:=?_) (a':=?_) #[true,true,true,true,true,true,true,true,true,true,false,false,false,false,false,false,false,false,false,false,false,false,false,false,false,false,false,false,false] rfl rfl (any_of HT_.out (by kernel_rfl)) (fun _ _ _ h => h) (Or.inl ⟨by rfl,?_⟩) ?_ ?_
       rotate_left
       ·intro w'
        go_simp
        with_reducible rfl
       rotate_left
       ·simp only [Act.put,sAx13,sBx13,sCx13,i64_w,i32_w]
        rfl
       refine pure_ (i:=10) (N:=some 66) (v:=?_) (a':=?_) #[true,true,true,true,true,true,true,true,true,true,true,false,false,false,false,false,false,false,false,false,false,false,false,false,false,false,false,false,false] rfl rfl (any_of HT_.out (by kernel_rfl)) (fun _ _ _ h => h) (Or.inl ⟨by rfl,?_⟩) ?_ ?_
       rotate_left
       ·intro w'
        go_simp
        with_reducible rfl
       rotate_left
       ·simp only [Act.put,sAx13,sBx13,sCx13,i64_w,i32_w]
        rfl
       refine pure_ (i:=11) (N:=some 67) (v:=?_) (a':=?_) #[true,true,true,true,true,true,true,true,true,true,true,true,false,false,false,false,false,false,false,false,false,false,false,false,false,false,false,false,false] rfl rfl (any_of HT_.out (by kernel_rfl)) (fun _ _ _ h => h) (Or.inl ⟨by rfl,?_⟩) ?_ ?_
       rotate_left
       ·intro w'
        go_simp
        with_reducible rfl
       rotate_left
       ·simp only [Act.put,sAx13,sBx13,sCx13,i64_w,i32_w]
        rfl
       refine take_ (i:=12) (N:=some 68) (v:=?_) (a':=?_) #[true,true,true,true,true,true,true,true,true,true,true,true,true,false,false,false,false,false,false,false,false,false,false,false,false,false,false,false,false] rfl rfl (take_ofW HT_.out HW_.out (by kernel_rfl)) (fun _ _ _ h => h) (Or.inl ⟨by rfl,?_⟩) hHeld ?_ ?_
       rotate_left
       ·rintro w' ⟨s0,s1⟩
        go_simp
        with_reducible rfl
       rotate_left
       ·simp only [Act.put,sAx13,sBx13,sCx13,i64_w,i32_w]
        rfl
       refine one_ (i:=13) (N:=some 69) #[true,true,true,true,true,true,true,true,true,true,true,true,true,true,false,false,false,false,false,false,false,false,false,false,false,false,false,false,false] rfl rfl (one_of HT_.out (by kernel_rfl)) (by decide) (fun K hK => ?_)
       refine Kd.R_lit_step k41 _ 41 ?hg (N:=69) ?hd (xs:=([(⟨wrap64 (-(ji4)),Int.tmod (wrap64 (a1)) (ji6)⟩ : S41)] : List (S41))) (inner:=[.int .i64 (wrap64 (-(ji4))),.int .i64 (Int.tmod (wrap64 (a1)) (ji6))]) (ok:=fun _ => True) (okp:=fun _ => True) ?hr ?hp (fun _ hk => hk) trivial (Below.refl _ _) (Nat.le_refl _) (by simp) ?_;(case hd => rfl);(case hg => rfl);(case hr => first | (go_simp;done) | (go_simp;rfl));(case hp => exact (Reps.c2 (show Kd.M k41 _ _ _ (⟨wrap64 (-(ji4)),Int.tmod (wrap64 (a1)) (ji6)⟩ : S41) [.int .i64 (wrap64 (-(ji4))),.int .i64 (Int.tmod (wrap64 (a1)) (ji6))] from (k41_mkM _ _ _ (⟨wrap64 (-(ji4)),Int.tmod (wrap64 (a1)) (ji6)⟩ : S41) )) (Reps.none _ _)))
       intro v197 w95 ho96 hb hg_ hnew_
       clear hg_ hnew_
       (first | rw [← Ny196.out] at ho96 | (simp only [Int.reduceToNat] at ho96;rw [← Ny196.out] at ho96))
       have n0_:=aMx13 (Kd.R_elder' (by (with_reducible repeat (first | apply Kd.R_alloc | apply Kd.R_drewN | apply Kd.R_drew));exact HO177.out) (Kd.R_base ho96) hb)
       have n1_:=aMx13 (Kd.R_below (by (with_reducible repeat (first | apply Kd.R_alloc | apply Kd.R_drewN | apply Kd.R_drew));exact HO181.out) hb)
       have n2_:=aMx13 (Kd.R_elder' (by (with_reducible repeat (first | apply Kd.R_alloc | apply Kd.R_drewN | apply Kd.R_drew));exact HO184.out) (Kd.R_base ho96) hb)
       have n3_:=aMx13 (Kd.R_below (by (with_reducible repeat (first | apply Kd.R_alloc | apply Kd.R_drewN | apply Kd.R_drew));exact HO188.out) hb)
       have n4_:=aMx13 (Kd.R_below (by (with_reducible repeat (first | apply Kd.R_alloc | apply Kd.R_drewN | apply Kd.R_drew));exact HO191.out) hb)
       have n5_:=aMx13 (Kd.R_elder' (by (with_reducible repeat (first | apply Kd.R_alloc | apply Kd.R_drewN | apply Kd.R_drew));exact HO195.out) (Kd.R_base ho96) hb)
       have n6_:=aMx13 (Kd.R_lower (Kd.R_newB (Kd.R_newB (Kd.R_new' (Kd.R_new' (Kd.R_new' ho96 (Kd.R_lt (by (with_reducible repeat (first | apply Kd.R_alloc | apply Kd.R_drewN | apply Kd.R_drew));exact HO177.out))) (Kd.R_lt (by (with_reducible repeat (first | apply Kd.R_alloc | apply Kd.R_drewN | apply Kd.R_drew));exact HO184.out))) (Kd.R_lt (by (with_reducible repeat (first | apply Kd.R_alloc | apply Kd.R_drewN | apply Kd.R_drew));exact HO195.out))) (g:=gb173) (o:=.cells #[.int .i64 (wrap64 (-(ji4))),.int .i64 (Int.tmod (wrap64 (a1)) (ji6))] 41 (0,0)) (by (with_reducible repeat (first | refine blk_drewN ?_ _ | refine blk_drew ?_ | refine blk_alloc ?_ _));exact BK173.out)) (g:=gb174) (o:=.cells #[.int .i64 (wrap64 (-(ji4))),.int .i64 (Int.tmod (wrap64 (a2)) (ji6))] 41 (0,0)) (by (with_reducible repeat (first | refine blk_drewN ?_ _ | refine blk_drew ?_ | refine blk_alloc ?_ _));exact BK174.out)) (below_size (by repeat (first | (with_reducible first | exact HB.out | apply below_alloc | apply pw_below_drewN | apply below_drew1 | refine below_set ?_ GE173.out | refine below_set ?_ GE174.out) | exact HB.out))))
       have n7_:=aMx13 (blk_below (g:=gb173) (o:=.cells #[.int .i64 (wrap64 (-(ji4))),.int .i64 (Int.tmod (wrap64 (a1)) (ji6))] 41 (0,0)) (by (with_reducible repeat (first | refine blk_drewN ?_ _ | refine blk_drew ?_ | refine blk_alloc ?_ _));exact BK173.out) hb)
       have n8_:=aMx13 (blk_below (g:=gb174) (o:=.cells #[.int .i64 (wrap64 (-(ji4))),.int .i64 (Int.tmod (wrap64 (a2)) (ji6))] 41 (0,0)) (by (with_reducible repeat (first | refine blk_drewN ?_ _ | refine blk_drew ?_ | refine blk_alloc ?_ _));exact BK174.out) hb)
       have n9_:=aMx13 (below_step (by repeat (first | (with_reducible first | exact HB.out | apply below_alloc | apply pw_below_drewN | apply below_drew1 | refine below_set ?_ GE173.out | refine below_set ?_ GE174.out) | exact HB.out)) hb)
       clear HO177
       clear HO181
       clear HO184
       clear HO188
       clear HO191
       clear HO195
       clear BK173
       clear BK174
       clear HB
       have HO177:=n0_
       have HO181:=n1_
       have HO184:=n2_
       have HO188:=n3_
       have HO191:=n4_
       have HO195:=n5_
       have HO198:=n6_
       have BK173:=n7_
       have BK174:=n8_
       have HB:=n9_
       clear n0_ n1_ n2_ n3_ n4_ n5_ n6_ n7_ n8_ n9_
       clear hb ho96
       obtain ⟨Ao97,co97,eo97⟩:=Kd.R_slice HO195.out
       (first | subst eo97 | (injection eo97 with f1_ f2_ f3_;have f4_:=f1_.symm;have f5_:=f3_.symm;clear f1_ f2_ f3_;subst f4_;subst f5_))
       obtain ⟨Ao98,co98,eo98⟩:=Kd.R_slice HO198.out
       (first | subst eo98 | (injection eo98 with f1_ f2_ f3_;have f4_:=f1_.symm;have f5_:=f3_.symm;clear f1_ f2_ f3_;subst f4_;subst f5_))
       refine hK.out _ _ ⟨(blk_cell BK173.out 0).trans rfl,(blk_cell BK173.out 1).trans rfl⟩ (fun hHeld => ?_)
       clear hK K
       refine norm_ (a':=?_) ?_ ?_
       rotate_left
       ·show Act.put _ (some 69) _ = _
        simp only [Act.put,sAx13,sBx13,sCx13,i64_w,i32_w]
        rfl
       refine one_ (i:=14) (N:=some 70) #[true,true,true,true,true,true,true,true,true,true,true,true,true,true,true,false,false,false,false,false,false,false,false,false,false,false,false,false,false] rfl rfl (one_of HT_.out (by kernel_rfl)) (by decide) (fun K hK => ?_)
       refine goes_ Try.func17 (by kernel_rfl) rfl #[.slice Ao97 t192.length co97,.slice Ao98 y196.length co98] (by rfl) rfl rfl (by (try simp only [List.map_toArray,List.map_cons,List.map_nil]);first | done | rfl | (simp only [List.length_drop,List.length_take];rfl)) ?_
       with_reducible refine (lapidaryref06_Same.calls k _ _ t192 _ _ y196 false _ ?side1 ?side2 ?side3 ?side4 A16.out).mono ?_
       (case side1 => repeat (first|exact (Kd.R_reads' HO195.out).2.2|(with_reducible first|refine Kd.C_alloc ?_ _|refine Kd.C_drewN ?_ _|refine Kd.C_drew ?_)))
       (case side2 => exact (Kd.R_reads' HO195.out).2.1)
       (case side3 => repeat (first|exact (Kd.R_reads' HO198.out).2.2|(with_reducible first|refine Kd.C_alloc ?_ _|refine Kd.C_drewN ?_ _|refine Kd.C_drew ?_)))
       (case side4 => exact (Kd.R_reads' HO198.out).2.1)
       rintro e w' ⟨rfl,⟨nd,rfl⟩⟩
       refine ⟨_,rfl,?_⟩
       refine hK.out _ _ ⟨(blk_cell BK173.out 0).trans rfl,(blk_cell BK173.out 1).trans rfl⟩ (fun hHeld => ?_)
       clear hK K
       refine norm_ (a':=?_) ?_ ?_
       rotate_left
       ·show Act.put _ (some 70) _ = _
        simp only [Act.put,sAx13,sBx13,sCx13,i64_w,i32_w]
        rfl
       refine pure_ (i:=15) (N:=some 71) (v:=?_) (a':=?_) #[true,true,true,true,true,true,true,true,true,true,true,true,true,true,true,true,false,false,false,false,false,false,false,false,false,false,false,false,false] rfl rfl (any_of HT_.out (by kernel_rfl)) (fun _ _ _ h => h) (Or.inl ⟨by rfl,?_⟩) ?_ ?_
       rotate_left
       ·intro w'
        go_simp
        with_reducible rfl
       rotate_left
       ·simp only [Act.put,sAx13,sBx13,sCx13,i64_w,i32_w]
        rfl
       refine pure_ (i:=16) (N:=some 72) (v:=?_) (a':=?_) #[true,true,true,true,true,true,true,true,true,true,true,true,true,true,true,true,true,false,false,false,false,false,false,false,false,false,false,false,false] rfl rfl (any_of HT_.out (by kernel_rfl)) (fun _ _ _ h => h) (Or.inl ⟨by rfl,?_⟩) ?_ ?_
       rotate_left
       ·intro w'
        go_simp
        with_reducible rfl
       rotate_left
       ·simp only [Act.put,sAx13,sBx13,sCx13,i64_w,i32_w]
        rfl
       refine pure_ (i:=17) (N:=some 73) (v:=undef) (a':=?_) #[true,true,true,true,true,true,true,true,true,true,true,true,true,true,true,true,true,true,false,false,false,false,false,false,false,false,false,false,false] rfl rfl (any_of HT_.out (by kernel_rfl)) (fun _ _ _ h => h) (Or.inr ⟨by rfl,rfl⟩) ?_ ?_
       rotate_left
       ·simp only [Act.put,sAx13,sBx13,sCx13,i64_w,i32_w]
        rfl
       refine pure_ (i:=18) (N:=some 74) (v:=undef) (a':=?_) #[true,true,true,true,true,true,true,true,true,true,true,true,true,true,true,true,true,true,true,false,false,false,false,false,false,false,false,false,false] rfl rfl (any_of HT_.out (by kernel_rfl)) (fun _ _ _ h => h) (Or.inr ⟨by rfl,rfl⟩) ?_ ?_
       rotate_left
       ·simp only [Act.put,sAx13,sBx13,sCx13,i64_w,i32_w]
        rfl
       refine pure_ (i:=19) (N:=some 75) (v:=undef) (a':=?_) #[true,true,true,true,true,true,true,true,true,true,true,true,true,true,true,true,true,true,true,true,false,false,false,false,false,false,false,false,false] rfl rfl (any_of HT_.out (by kernel_rfl)) (fun _ _ _ h => h) (Or.inr ⟨by rfl,rfl⟩) ?_ ?_
       rotate_left
       ·simp only [Act.put,sAx13,sBx13,sCx13,i64_w,i32_w]
        rfl
       refine pure_ (i:=20) (N:=some 76) (v:=undef) (a':=?_) #[true,true,true,true,true,true,true,true,true,true,true,true,true,true,true,true,true,true,true,true,true,false,false,false,false,false,false,false,false] rfl rfl (any_of HT_.out (by kernel_rfl)) (fun _ _ _ h => h) (Or.inr ⟨by rfl,rfl⟩) ?_ ?_
       rotate_left
       ·simp only [Act.put,sAx13,sBx13,sCx13,i64_w,i32_w]
        rfl
       refine pure_ (i:=21) (N:=some 77) (v:=undef) (a':=?_) #[true,true,true,true,true,true,true,true,true,true,true,true,true,true,true,true,true,true,true,true,true,true,false,false,false,false,false,false,false] rfl rfl (any_of HT_.out (by kernel_rfl)) (fun _ _ _ h => h) (Or.inr ⟨by rfl,rfl⟩) ?_ ?_
       rotate_left
       ·simp only [Act.put,sAx13,sBx13,sCx13,i64_w,i32_w]
        rfl
       refine pure_ (i:=22) (N:=some 78) (v:=undef) (a':=?_) #[true,true,true,true,true,true,true,true,true,true,true,true,true,true,true,true,true,true,true,true,true,true,true,false,false,false,false,false,false] rfl rfl (any_of HT_.out (by kernel_rfl)) (fun _ _ _ h => h) (Or.inr ⟨by rfl,rfl⟩) ?_ ?_
       rotate_left
       ·simp only [Act.put,sAx13,sBx13,sCx13,i64_w,i32_w]
        rfl
       refine pure_ (i:=23) (N:=some 79) (v:=undef) (a':=?_) #[true,true,true,true,true,true,true,true,true,true,true,true,true,true,true,true,true,true,true,true,true,true,true,true,false,false,false,false,false] rfl rfl (any_of HT_.out (by kernel_rfl)) (fun _ _ _ h => h) (Or.inr ⟨by rfl,rfl⟩) ?_ ?_
       rotate_left
       ·simp only [Act.put,sAx13,sBx13,sCx13,i64_w,i32_w]
        rfl
       refine pure_ (i:=24) (N:=some 80) (v:=?_) (a':=?_) #[true,true,true,true,true,true,true,true,true,true,true,true,true,true,true,true,true,true,true,true,true,true,true,true,true,false,false,false,false] rfl rfl (any_of HT_.out (by kernel_rfl)) (fun _ _ _ h => h) (Or.inl ⟨by rfl,?_⟩) ?_ ?_
       rotate_left
       ·intro w'
        go_simp
        with_reducible rfl
       rotate_left
       ·simp only [Act.put,sAx13,sBx13,sCx13,i64_w,i32_w]
        rfl
       refine pure_ (i:=25) (N:=some 81) (v:=?_) (a':=?_) #[true,true,true,true,true,true,true,true,true,true,true,true,true,true,true,true,true,true,true,true,true,true,true,true,true,true,false,false,false] rfl rfl (any_of HT_.out (by kernel_rfl)) (fun _ _ _ h => h) (Or.inl ⟨by rfl,?_⟩) ?_ ?_
       rotate_left
       ·intro w'
        go_simp
        with_reducible rfl
       rotate_left
       ·simp only [Act.put,sAx13,sBx13,sCx13,i64_w,i32_w]
        rfl
       refine pure_ (i:=26) (N:=some 82) (v:=undef) (a':=?_) #[true,true,true,true,true,true,true,true,true,true,true,true,true,true,true,true,true,true,true,true,true,true,true,true,true,true,true,false,false] rfl rfl (any_of HT_.out (by kernel_rfl)) (fun _ _ _ h => h) (Or.inr ⟨by rfl,rfl⟩) ?_ ?_
       rotate_left
       ·simp only [Act.put,sAx13,sBx13,sCx13,i64_w,i32_w]
        rfl
       refine pure_ (i:=27) (N:=some 83) (v:=?_) (a':=?_) #[true,true,true,true,true,true,true,true,true,true,true,true,true,true,true,true,true,true,true,true,true,true,true,true,true,true,true,true,false] rfl rfl (any_of HT_.out (by kernel_rfl)) (fun _ _ _ h => h) (Or.inl ⟨by rfl,?_⟩) ?_ ?_
       rotate_left
       ·intro w'
        go_simp
        with_reducible rfl
       rotate_left
       ·simp only [Act.put,sAx13,sBx13,sCx13,i64_w,i32_w]
        rfl
       refine pure_ (i:=28) (N:=some 6) (v:=?_) (a':=?_) #[true,true,true,true,true,true,true,true,true,true,true,true,true,true,true,true,true,true,true,true,true,true,true,true,true,true,true,true,true] rfl rfl (any_of HT_.out (by kernel_rfl)) (fun _ _ _ h => h) (Or.inl ⟨by rfl,?_⟩) ?_ ?_
       rotate_left
       ·intro w'
        go_simp
        with_reducible rfl
       rotate_left
       ·simp only [Act.put,sAx13,sBx13,sCx13,i64_w,i32_w]
        rfl
       refine done_ (done_of HT_.out (by kernel_rfl)) ?_
       try go_wp2
       go_ret
       exact ⟨by first | rfl | (simp [errW_none,errW_some]<;>rfl) | (simp only [← hji4,← hji6];first | rfl | (simp [errW_none,errW_some]<;>rfl)) | (simp [*,errW_none,errW_some]<;>rfl),by repeat (first | (with_reducible first | exact HB.out | apply below_alloc | apply pw_below_drewN | apply below_drew1 | refine below_set ?_ GE173.out | refine below_set ?_ GE174.out) | exact HB.out)⟩
     ·rw [if_neg c15] at H
      have c15b0 : (t193 == 0) = false:=beq_eq_false_iff_ne.mpr c15
      have c15b1 : (t193 != 0) = true:=bne_iff_ne.mpr c15
      obtain rfl:=Option.some.inj H
      go_enter Try.func8,Try.ntmps8
      try go_wp2_with (first|((with_reducible refine gate_dst (N:=8) rfl ?_);(try (refine gate_guard (by rfl) ?_;dsimp only));refine box_event ?hg (N:=8) ?hd (cs:=#[.int .i64 0,.int .i64 0]) (t:=41) ?hr ?_;(case hd => rfl);(case hg => rfl);(case hr => first|(go_simp;done)|(go_simp;rfl));intro gb173 hg w99 hbox hb;have n0_:=aMx13 (below_step (by repeat (with_reducible first|exact HB.out|apply below_alloc|apply pw_below_drewN|apply below_drew1)) hb);have n1_:=aMx13 (hbox);have n2_:=aMx13 ((by rw [hg];exact (below_size (by repeat (with_reducible first|exact HB.out|apply below_alloc|apply pw_below_drewN|apply below_drew1))) : w.heap.size ≤ gb173));have n3_:=aMx13 ((by rw [hg];exact (below_size (by repeat (with_reducible first|exact HB.out|apply below_alloc|apply pw_below_drewN|apply below_drew1))) : w.heap.size ≤ gb173));clear HB;have HB:=n0_;have BK173:=n1_;have GW173:=n2_;have GE173:=n3_;clear n0_ n1_ n2_ n3_;clear hb hbox hg;have hcz100_0 : w99.cell? ⟨gb173,0,none⟩ = some (.int .i64 0):=(blk_cell BK173.out 0).trans rfl;have hcz100_1 : w99.cell? ⟨gb173,1,none⟩ = some (.int .i64 0):=(blk_cell BK173.out 1).trans rfl;have hfz100_0:=blk_frozen BK173.out 0;have hfz100_1:=blk_frozen BK173.out 1)|((with_reducible refine gate_dst (N:=9) rfl ?_);(try (refine gate_guard (by rfl) ?_;dsimp only));refine box_event ?hg (N:=9) ?hd (cs:=#[.int .i64 0,.int .i64 0]) (t:=41) ?hr ?_;(case hd => rfl);(case hg => rfl);(case hr => first|(go_simp;done)|(go_simp;rfl));intro gb174 hg w101 hbox hb;have n0_:=aMx13 (blk_below (g:=gb173) (o:=.cells #[.int .i64 (wrap64 (-(ji4))),.int .i64 (Int.tmod (wrap64 (a1)) (ji6))] 41 (0,0)) (by (with_reducible repeat (first|refine blk_drewN ?_ _|refine blk_drew ?_|refine blk_alloc ?_ _));refine blk_put (cs:=#[.int .i64 (wrap64 (-(ji4))),.int .i64 0]) ?_ 1 _ rfl;(with_reducible repeat (first|refine blk_drewN ?_ _|refine blk_drew ?_|refine blk_alloc ?_ _));refine blk_put (cs:=#[.int .i64 0,.int .i64 0]) ?_ 0 _ rfl;(with_reducible repeat (first|refine blk_drewN ?_ _|refine blk_drew ?_|refine blk_alloc ?_ _));exact BK173.out) hb);have n1_:=aMx13 (below_step (by repeat (first|(with_reducible first|exact HB.out|apply below_alloc|apply pw_below_drewN|apply below_drew1|refine below_set ?_ GE173.out)|exact HB.out)) hb);have n2_:=aMx13 (hbox);have n3_:=aMx13 ((by rw [hg];exact (below_size (by repeat (first|(with_reducible first|exact HB.out|apply below_alloc|apply pw_below_drewN|apply below_drew1|refine below_set ?_ GE173.out)|exact HB.out))) : w.heap.size ≤ gb174));have n4_:=aMx13 ((by rw [hg];exact (below_size (by repeat (first|(with_reducible first|exact HB.out|apply below_alloc|apply pw_below_drewN|apply below_drew1|refine below_set ?_ GE173.out)|exact HB.out))) : w.heap.size ≤ gb174));have n5_:=aMx13 ((by rw [hg];exact Nat.ne_of_lt (blk_lt (g:=gb173) (o:=.cells #[.int .i64 (wrap64 (-(ji4))),.int .i64 (Int.tmod (wrap64 (a1)) (ji6))] 41 (0,0)) (by (with_reducible repeat (first|refine blk_drewN ?_ _|refine blk_drew ?_|refine blk_alloc ?_ _));refine blk_put (cs:=#[.int .i64 (wrap64 (-(ji4))),.int .i64 0]) ?_ 1 _ rfl;(with_reducible repeat (first|refine blk_drewN ?_ _|refine blk_drew ?_|refine blk_alloc ?_ _));refine blk_put (cs:=#[.int .i64 0,.int .i64 0]) ?_ 0 _ rfl;(with_reducible repeat (first|refine blk_drewN ?_ _|refine blk_drew ?_|refine blk_alloc ?_ _));exact BK173.out)) : gb173 ≠ gb174));have n6_:=aMx13 ((by rw [hg];exact Nat.ne_of_gt (blk_lt (g:=gb173) (o:=.cells #[.int .i64 (wrap64 (-(ji4))),.int .i64 (Int.tmod (wrap64 (a1)) (ji6))] 41 (0,0)) (by (with_reducible repeat (first|refine blk_drewN ?_ _|refine blk_drew ?_|refine blk_alloc ?_ _));refine blk_put (cs:=#[.int .i64 (wrap64 (-(ji4))),.int .i64 0]) ?_ 1 _ rfl;(with_reducible repeat (first|refine blk_drewN ?_ _|refine blk_drew ?_|refine blk_alloc ?_ _));refine blk_put (cs:=#[.int .i64 0,.int .i64 0]) ?_ 0 _ rfl;(with_reducible repeat (first|refine blk_drewN ?_ _|refine blk_drew ?_|refine blk_alloc ?_ _));exact BK173.out)) : gb174 ≠ gb173));clear BK173;clear HB;have BK173:=n0_;have HB:=n1_;have BK174:=n2_;have GW174:=n3_;have GE174:=n4_;have NB173_174:=n5_;have NB174_173:=n6_;clear n0_ n1_ n2_ n3_ n4_ n5_ n6_;clear hb hbox hg;have hnb102:=NB174_173.out;have hnc102:=NB173_174.out;have hcz103_0 : w101.cell? ⟨gb174,0,none⟩ = some (.int .i64 0):=(blk_cell BK174.out 0).trans rfl;have hcz103_1 : w101.cell? ⟨gb174,1,none⟩ = some (.int .i64 0):=(blk_cell BK174.out 1).trans rfl;have hfz103_0:=blk_frozen BK174.out 0;have hfz103_1:=blk_frozen BK174.out 1;have hcz104_0 : w101.cell? ⟨gb173,0,none⟩ = some (.int .i64 (wrap64 (-(ji4)))):=(blk_cell BK173.out 0).trans rfl;have hcz104_1 : w101.cell? ⟨gb173,1,none⟩ = some (.int .i64 (Int.tmod (wrap64 (a1)) (ji6))):=(blk_cell BK173.out 1).trans rfl;have hfz104_0:=blk_frozen BK173.out 0;have hfz104_1:=blk_frozen BK173.out 1)|((with_reducible refine gate_dst (N:=38) rfl ?_);(try (refine gate_guard (by rfl) ?_;dsimp only));refine Kd.R_lit k41 _ 41 ?hg (N:=38) ?hd (xs:=([(⟨wrap64 (-(ji4)),Int.tmod (wrap64 (a1)) (ji6)⟩ : S41)] : List (S41))) (inner:=[.int .i64 (wrap64 (-(ji4))),.int .i64 (Int.tmod (wrap64 (a1)) (ji6))]) (ok:=fun _ => True) (okp:=fun _ => True) ?hr ?hp (fun _ hk => hk) trivial (Below.refl _ _) (Nat.le_refl _) (by simp) ?_;(case hd => rfl);(case hg => rfl);(case hr => first|(go_simp;done)|(go_simp;rfl));(case hp => exact (Reps.c2 (show Kd.M k41 _ _ _ (⟨wrap64 (-(ji4)),Int.tmod (wrap64 (a1)) (ji6)⟩ : S41) [.int .i64 (wrap64 (-(ji4))),.int .i64 (Int.tmod (wrap64 (a1)) (ji6))] from (k41_mkM _ _ _ (⟨wrap64 (-(ji4)),Int.tmod (wrap64 (a1)) (ji6)⟩ : S41) )) (Reps.none _ _)));intro v176 w105 ho106 hb hg_ hnew_;clear hg_ hnew_;(first|rw [← Ny175.out] at ho106|(simp only [Int.reduceToNat] at ho106;rw [← Ny175.out] at ho106));have n0_:=aMx13 (Kd.R_lower (Kd.R_newB (Kd.R_newB ho106 (g:=gb173) (o:=.cells #[.int .i64 (wrap64 (-(ji4))),.int .i64 (Int.tmod (wrap64 (a1)) (ji6))] 41 (0,0)) (by (with_reducible repeat (first|refine blk_drewN ?_ _|refine blk_drew ?_|refine blk_alloc ?_ _));refine blk_far ?_ NB173_174.out _;(with_reducible repeat (first|refine blk_drewN ?_ _|refine blk_drew ?_|refine blk_alloc ?_ _));refine blk_far ?_ NB173_174.out _;(with_reducible repeat (first|refine blk_drewN ?_ _|refine blk_drew ?_|refine blk_alloc ?_ _));exact BK173.out)) (g:=gb174) (o:=.cells #[.int .i64 (wrap64 (-(ji4))),.int .i64 (Int.tmod (wrap64 (a2)) (ji6))] 41 (0,0)) (by (with_reducible repeat (first|refine blk_drewN ?_ _|refine blk_drew ?_|refine blk_alloc ?_ _));refine blk_put (cs:=#[.int .i64 (wrap64 (-(ji4))),.int .i64 0]) ?_ 1 _ rfl;(with_reducible repeat (first|refine blk_drewN ?_ _|refine blk_drew ?_|refine blk_alloc ?_ _));refine blk_put (cs:=#[.int .i64 0,.int .i64 0]) ?_ 0 _ rfl;(with_reducible repeat (first|refine blk_drewN ?_ _|refine blk_drew ?_|refine blk_alloc ?_ _));exact BK174.out)) (below_size (by repeat (first|(with_reducible first|exact HB.out|apply below_alloc|apply pw_below_drewN|apply below_drew1|refine below_set ?_ GE173.out|refine below_set ?_ GE174.out)|exact HB.out))));have n1_:=aMx13 (blk_below (g:=gb173) (o:=.cells #[.int .i64 (wrap64 (-(ji4))),.int .i64 (Int.tmod (wrap64 (a1)) (ji6))] 41 (0,0)) (by (with_reducible repeat (first|refine blk_drewN ?_ _|refine blk_drew ?_|refine blk_alloc ?_ _));refine blk_far ?_ NB173_174.out _;(with_reducible repeat (first|refine blk_drewN ?_ _|refine blk_drew ?_|refine blk_alloc ?_ _));refine blk_far ?_ NB173_174.out _;(with_reducible repeat (first|refine blk_drewN ?_ _|refine blk_drew ?_|refine blk_alloc ?_ _));exact BK173.out) hb);have n2_:=aMx13 (blk_below (g:=gb174) (o:=.cells #[.int .i64 (wrap64 (-(ji4))),.int .i64 (Int.tmod (wrap64 (a2)) (ji6))] 41 (0,0)) (by (with_reducible repeat (first|refine blk_drewN ?_ _|refine blk_drew ?_|refine blk_alloc ?_ _));refine blk_put (cs:=#[.int .i64 (wrap64 (-(ji4))),.int .i64 0]) ?_ 1 _ rfl;(with_reducible repeat (first|refine blk_drewN ?_ _|refine blk_drew ?_|refine blk_alloc ?_ _));refine blk_put (cs:=#[.int .i64 0,.int .i64 0]) ?_ 0 _ rfl;(with_reducible repeat (first|refine blk_drewN ?_ _|refine blk_drew ?_|refine blk_alloc ?_ _));exact BK174.out) hb);have n3_:=aMx13 (below_step (by repeat (first|(with_reducible first|exact HB.out|apply below_alloc|apply pw_below_drewN|apply below_drew1|refine below_set ?_ GE173.out|refine below_set ?_ GE174.out)|exact HB.out)) hb);clear BK173;clear BK174;clear HB;have HO177:=n0_;have BK173:=n1_;have BK174:=n2_;have HB:=n3_;clear n0_ n1_ n2_ n3_;clear hb ho106;obtain ⟨Ao107,co107,eo107⟩:=Kd.R_slice HO177.out;subst eo107)|((with_reducible refine gate_callee (f:=12) rfl ?_);refine goesL_ (some 39) rfl rfl Try.func12 (by kernel_rfl) rfl #[.slice none 0 0,.slice Ao107 y175.length co107] rfl (by (try simp only [List.map_toArray,List.map_cons,List.map_nil]);first|done|rfl|(simp only [List.length_drop,List.length_take];rfl)) ?_;(refine (coder_Encode.calls _ _ ([] : List Int) _ _ y175 t178 t179 _ ?side1 ?side2 ?side3 ?side4 A10.out).mono ?_);(case side1 => exact Kd.C_nil _ _);(case side2 => exact Nat.le_refl _);(case side3 => repeat (first|exact (Kd.R_reads' HO177.out).2.2|(with_reducible first|refine Kd.C_alloc ?_ _|refine Kd.C_drewN ?_ _|refine Kd.C_drew ?_)));(case side4 => exact (Kd.R_reads' HO177.out).2.1);rintro e w108 ⟨v180,rfl,ho0,hb⟩;refine ⟨_,rfl,?_⟩;have n0_:=aMx13 (Kd.R_below (by (with_reducible repeat (first|apply Kd.R_alloc|apply Kd.R_drewN|apply Kd.R_drew));exact HO177.out) hb);have n1_:=aMx13 (Kd.R_lower ho0 (below_size (by repeat (first|(with_reducible first|exact HB.out|apply below_alloc|apply pw_below_drewN|apply below_drew1|refine below_set ?_ GE173.out|refine below_set ?_ GE174.out)|exact HB.out))));have n2_:=aMx13 (blk_below (g:=gb173) (o:=.cells #[.int .i64 (wrap64 (-(ji4))),.int .i64 (Int.tmod (wrap64 (a1)) (ji6))] 41 (0,0)) (by (with_reducible repeat (first|refine blk_drewN ?_ _|refine blk_drew ?_|refine blk_alloc ?_ _));exact BK173.out) hb);have n3_:=aMx13 (blk_below (g:=gb174) (o:=.cells #[.int .i64 (wrap64 (-(ji4))),.int .i64 (Int.tmod (wrap64 (a2)) (ji6))] 41 (0,0)) (by (with_reducible repeat (first|refine blk_drewN ?_ _|refine blk_drew ?_|refine blk_alloc ?_ _));exact BK174.out) hb);have n4_:=aMx13 (below_step (by repeat (first|(with_reducible first|exact HB.out|apply below_alloc|apply pw_below_drewN|apply below_drew1|refine below_set ?_ GE173.out|refine below_set ?_ GE174.out)|exact HB.out)) hb);clear HO177;clear BK173;clear BK174;clear HB;have HO177:=n0_;have HO181:=n1_;have BK173:=n2_;have BK174:=n3_;have HB:=n4_;clear n0_ n1_ n2_ n3_ n4_;(try clear hb);(try clear hb2);(try clear hk);(try clear hi);(try clear ho0);have hcz109_0 : w108.cell? ⟨gb174,0,none⟩ = some (.int .i64 (wrap64 (-(ji4)))):=(blk_cell BK174.out 0).trans rfl;have hcz109_1 : w108.cell? ⟨gb174,1,none⟩ = some (.int .i64 (Int.tmod (wrap64 (a2)) (ji6))):=(blk_cell BK174.out 1).trans rfl;have hfz109_0:=blk_frozen BK174.out 0;have hfz109_1:=blk_frozen BK174.out 1)|((with_reducible refine gate_dst (N:=44) rfl ?_);(try (refine gate_guard (by rfl) ?_;dsimp only));refine Kd.R_lit k41 _ 41 ?hg (N:=44) ?hd (xs:=([(⟨wrap64 (-(ji4)),Int.tmod (wrap64 (a2)) (ji6)⟩ : S41)] : List (S41))) (inner:=[.int .i64 (wrap64 (-(ji4))),.int .i64 (Int.tmod (wrap64 (a2)) (ji6))]) (ok:=fun _ => True) (okp:=fun _ => True) ?hr ?hp (fun _ hk => hk) trivial (Below.refl _ _) (Nat.le_refl _) (by simp) ?_;(case hd => rfl);(case hg => rfl);(case hr => first|(go_simp;done)|(go_simp;rfl));(case hp => exact (Reps.c2 (show Kd.M k41 _ _ _ (⟨wrap64 (-(ji4)),Int.tmod (wrap64 (a2)) (ji6)⟩ : S41) [.int .i64 (wrap64 (-(ji4))),.int .i64 (Int.tmod (wrap64 (a2)) (ji6))] from (k41_mkM _ _ _ (⟨wrap64 (-(ji4)),Int.tmod (wrap64 (a2)) (ji6)⟩ : S41) )) (Reps.none _ _)));intro v183 w110 ho111 hb hg_ hnew_;clear hg_ hnew_;(first|rw [← Ny182.out] at ho111|(simp only [Int.reduceToNat] at ho111;rw [← Ny182.out] at ho111));have n0_:=aMx13 (Kd.R_elder' (by (with_reducible repeat (first|apply Kd.R_alloc|apply Kd.R_drewN|apply Kd.R_drew));exact HO177.out) (Kd.R_base ho111) hb);have n1_:=aMx13 (Kd.R_below (by (with_reducible repeat (first|apply Kd.R_alloc|apply Kd.R_drewN|apply Kd.R_drew));exact HO181.out) hb);have n2_:=aMx13 (Kd.R_lower (Kd.R_newB (Kd.R_newB (Kd.R_new' ho111 (Kd.R_lt (by (with_reducible repeat (first|apply Kd.R_alloc|apply Kd.R_drewN|apply Kd.R_drew));exact HO177.out))) (g:=gb173) (o:=.cells #[.int .i64 (wrap64 (-(ji4))),.int .i64 (Int.tmod (wrap64 (a1)) (ji6))] 41 (0,0)) (by (with_reducible repeat (first|refine blk_drewN ?_ _|refine blk_drew ?_|refine blk_alloc ?_ _));exact BK173.out)) (g:=gb174) (o:=.cells #[.int .i64 (wrap64 (-(ji4))),.int .i64 (Int.tmod (wrap64 (a2)) (ji6))] 41 (0,0)) (by (with_reducible repeat (first|refine blk_drewN ?_ _|refine blk_drew ?_|refine blk_alloc ?_ _));exact BK174.out)) (below_size (by repeat (first|(with_reducible first|exact HB.out|apply below_alloc|apply pw_below_drewN|apply below_drew1|refine below_set ?_ GE173.out|refine below_set ?_ GE174.out)|exact HB.out))));have n3_:=aMx13 (blk_below (g:=gb173) (o:=.cells #[.int .i64 (wrap64 (-(ji4))),.int .i64 (Int.tmod (wrap64 (a1)) (ji6))] 41 (0,0)) (by (with_reducible repeat (first|refine blk_drewN ?_ _|refine blk_drew ?_|refine blk_alloc ?_ _));exact BK173.out) hb);have n4_:=aMx13 (blk_below (g:=gb174) (o:=.cells #[.int .i64 (wrap64 (-(ji4))),.int .i64 (Int.tmod (wrap64 (a2)) (ji6))] 41 (0,0)) (by (with_reducible repeat (first|refine blk_drewN ?_ _|refine blk_drew ?_|refine blk_alloc ?_ _));exact BK174.out) hb);have n5_:=aMx13 (below_step (by repeat (first|(with_reducible first|exact HB.out|apply below_alloc|apply pw_below_drewN|apply below_drew1|refine below_set ?_ GE173.out|refine below_set ?_ GE174.out)|exact HB.out)) hb);clear HO177;clear HO181;clear BK173;clear BK174;clear HB;have HO177:=n0_;have HO181:=n1_;have HO184:=n2_;have BK173:=n3_;have BK174:=n4_;have HB:=n5_;clear n0_ n1_ n2_ n3_ n4_ n5_;clear hb ho111;obtain ⟨Ao112,co112,eo112⟩:=Kd.R_slice HO184.out;subst eo112)|((with_reducible refine gate_callee (f:=12) rfl ?_);refine goesL_ (some 45) rfl rfl Try.func12 (by kernel_rfl) rfl #[.slice none 0 0,.slice Ao112 y182.length co112] rfl (by (try simp only [List.map_toArray,List.map_cons,List.map_nil]);first|done|rfl|(simp only [List.length_drop,List.length_take];rfl)) ?_;(refine (coder_Encode.calls _ _ ([] : List Int) _ _ y182 t185 t186 _ ?side1 ?side2 ?side3 ?side4 A11.out).mono ?_);(case side1 => exact Kd.C_nil _ _);(case side2 => exact Nat.le_refl _);(case side3 => repeat (first|exact (Kd.R_reads' HO184.out).2.2|(with_reducible first|refine Kd.C_alloc ?_ _|refine Kd.C_drewN ?_ _|refine Kd.C_drew ?_)));(case side4 => exact (Kd.R_reads' HO184.out).2.1);rintro e w113 ⟨v187,rfl,ho0,hb⟩;refine ⟨_,rfl,?_⟩;have n0_:=aMx13 (Kd.R_below (by (with_reducible repeat (first|apply Kd.R_alloc|apply Kd.R_drewN|apply Kd.R_drew));exact HO177.out) hb);have n1_:=aMx13 (Kd.R_elder' (by (with_reducible repeat (first|apply Kd.R_alloc|apply Kd.R_drewN|apply Kd.R_drew));exact HO181.out) (Kd.R_base ho0) hb);have n2_:=aMx13 (Kd.R_below (by (with_reducible repeat (first|apply Kd.R_alloc|apply Kd.R_drewN|apply Kd.R_drew));exact HO184.out) hb);have n3_:=aMx13 (Kd.R_lower (Kd.R_new' ho0 (Kd.R_lt (by (with_reducible repeat (first|apply Kd.R_alloc|apply Kd.R_drewN|apply Kd.R_drew));exact HO181.out))) (below_size (by repeat (first|(with_reducible first|exact HB.out|apply below_alloc|apply pw_below_drewN|apply below_drew1|refine below_set ?_ GE173.out|refine below_set ?_ GE174.out)|exact HB.out))));have n4_:=aMx13 (blk_below (g:=gb173) (o:=.cells #[.int .i64 (wrap64 (-(ji4))),.int .i64 (Int.tmod (wrap64 (a1)) (ji6))] 41 (0,0)) (by (with_reducible repeat (first|refine blk_drewN ?_ _|refine blk_drew ?_|refine blk_alloc ?_ _));exact BK173.out) hb);have n5_:=aMx13 (blk_below (g:=gb174) (o:=.cells #[.int .i64 (wrap64 (-(ji4))),.int .i64 (Int.tmod (wrap64 (a2)) (ji6))] 41 (0,0)) (by (with_reducible repeat (first|refine blk_drewN ?_ _|refine blk_drew ?_|refine blk_alloc ?_ _));exact BK174.out) hb);have n6_:=aMx13 (below_step (by repeat (first|(with_reducible first|exact HB.out|apply below_alloc|apply pw_below_drewN|apply below_drew1|refine below_set ?_ GE173.out|refine below_set ?_ GE174.out)|exact HB.out)) hb);clear HO177;clear HO181;clear HO184;clear BK173;clear BK174;clear HB;have HO177:=n0_;have HO181:=n1_;have HO184:=n2_;have HO188:=n3_;have BK173:=n4_;have BK174:=n5_;have HB:=n6_;clear n0_ n1_ n2_ n3_ n4_ n5_ n6_;(try clear hb);(try clear hb2);(try clear hk);(try clear hi);(try clear ho0))|((with_reducible refine gate_dst (N:=51) rfl ?_);(try (refine gate_guard (by rfl) ?_;dsimp only));refine Kd.R_lit (Kd.int .i64) _ 3 ?hg (N:=51) ?hd (xs:=([wrap64 (-(ji4))] : List Int)) (inner:=[.int .i64 (wrap64 (-(ji4)))]) (ok:=fun _ => True) (okp:=fun _ => True) ?hr ?hp (fun _ hk => hk) trivial (Below.refl _ _) (Nat.le_refl _) (by simp) ?_;(case hd => rfl);(case hg => rfl);(case hr => first|(go_simp;done)|(go_simp;rfl));(case hp => exact (Reps.one (show Kd.M (Kd.int .i64) _ _ _ (wrap64 (-(ji4))) [.int .i64 (wrap64 (-(ji4)))] from rfl) (Reps.none _ _)));intro v190 w114 ho115 hb hg_ hnew_;clear hg_ hnew_;(first|rw [← Ny189.out] at ho115|(simp only [Int.reduceToNat] at ho115;rw [← Ny189.out] at ho115));have n0_:=aMx13 (Kd.R_below (by (with_reducible repeat (first|apply Kd.R_alloc|apply Kd.R_drewN|apply Kd.R_drew));exact HO177.out) hb);have n1_:=aMx13 (Kd.R_below (by (with_reducible repeat (first|apply Kd.R_alloc|apply Kd.R_drewN|apply Kd.R_drew));exact HO181.out) hb);have n2_:=aMx13 (Kd.R_below (by (with_reducible repeat (first|apply Kd.R_alloc|apply Kd.R_drewN|apply Kd.R_drew));exact HO184.out) hb);have n3_:=aMx13 (Kd.R_below (by (with_reducible repeat (first|apply Kd.R_alloc|apply Kd.R_drewN|apply Kd.R_drew));exact HO188.out) hb);have n4_:=aMx13 (Kd.R_lower ho115 (below_size (by repeat (first|(with_reducible first|exact HB.out|apply below_alloc|apply pw_below_drewN|apply below_drew1|refine below_set ?_ GE173.out|refine below_set ?_ GE174.out)|exact HB.out))));have n5_:=aMx13 (blk_below (g:=gb173) (o:=.cells #[.int .i64 (wrap64 (-(ji4))),.int .i64 (Int.tmod (wrap64 (a1)) (ji6))] 41 (0,0)) (by (with_reducible repeat (first|refine blk_drewN ?_ _|refine blk_drew ?_|refine blk_alloc ?_ _));exact BK173.out) hb);have n6_:=aMx13 (blk_below (g:=gb174) (o:=.cells #[.int .i64 (wrap64 (-(ji4))),.int .i64 (Int.tmod (wrap64 (a2)) (ji6))] 41 (0,0)) (by (with_reducible repeat (first|refine blk_drewN ?_ _|refine blk_drew ?_|refine blk_alloc ?_ _));exact BK174.out) hb);have n7_:=aMx13 (below_step (by repeat (first|(with_reducible first|exact HB.out|apply below_alloc|apply pw_below_drewN|apply below_drew1|refine below_set ?_ GE173.out|refine below_set ?_ GE174.out)|exact HB.out)) hb);clear HO177;clear HO181;clear HO184;clear HO188;clear BK173;clear BK174;clear HB;have HO177:=n0_;have HO181:=n1_;have HO184:=n2_;have HO188:=n3_;have HO191:=n4_;have BK173:=n5_;have BK174:=n6_;have HB:=n7_;clear n0_ n1_ n2_ n3_ n4_ n5_ n6_ n7_;clear hb ho115;obtain ⟨Ao116,co116,eo116⟩:=Kd.R_slice HO191.out;subst eo116;obtain ⟨Ao117,co117,eo117⟩:=Kd.R_slice HO181.out;subst eo117)|((with_reducible refine gate_callee (f:=15) rfl ?_);refine goesL_ (some 53) rfl rfl Try.func15 (by kernel_rfl) rfl #[.slice none 0 0,.slice Ao116 y189.length co116,.slice Ao117 t178.length co117] rfl (by (try simp only [List.map_toArray,List.map_cons,List.map_nil]);first|done|rfl|(simp only [List.length_drop,List.length_take];rfl)) ?_;(refine (coder_Decode.calls _ _ ([] : List Int) _ _ y189 _ _ t178 t192 t193 _ ?side1 ?side2 ?side3 ?side4 ?side5 ?side6 A12.out).mono ?_);(case side1 => exact Kd.C_nil _ _);(case side2 => exact Nat.le_refl _);(case side3 => repeat (first|exact (Kd.R_reads' HO191.out).2.2|(with_reducible first|refine Kd.C_alloc ?_ _|refine Kd.C_drewN ?_ _|refine Kd.C_drew ?_)));(case side4 => exact (Kd.R_reads' HO191.out).2.1);(case side5 => repeat (first|exact (Kd.R_reads' HO181.out).2.2|(with_reducible first|refine Kd.C_alloc ?_ _|refine Kd.C_drewN ?_ _|refine Kd.C_drew ?_)));(case side6 => exact (Kd.R_reads' HO181.out).2.1);rintro e w118 ⟨v194,rfl,ho0,hb⟩;refine ⟨_,rfl,?_⟩;have n0_:=aMx13 (Kd.R_elder' (by (with_reducible repeat (first|apply Kd.R_alloc|apply Kd.R_drewN|apply Kd.R_drew));exact HO177.out) (Kd.R_base ho0) hb);have n1_:=aMx13 (Kd.R_below (by (with_reducible repeat (first|apply Kd.R_alloc|apply Kd.R_drewN|apply Kd.R_drew));exact HO181.out) hb);have n2_:=aMx13 (Kd.R_elder' (by (with_reducible repeat (first|apply Kd.R_alloc|apply Kd.R_drewN|apply Kd.R_drew));exact HO184.out) (Kd.R_base ho0) hb);have n3_:=aMx13 (Kd.R_below (by (with_reducible repeat (first|apply Kd.R_alloc|apply Kd.R_drewN|apply Kd.R_drew));exact HO188.out) hb);have n4_:=aMx13 (Kd.R_below (by (with_reducible repeat (first|apply Kd.R_alloc|apply Kd.R_drewN|apply Kd.R_drew));exact HO191.out) hb);have n5_:=aMx13 (Kd.R_lower (Kd.R_newB (Kd.R_newB (Kd.R_new' (Kd.R_new' ho0 (Kd.R_lt (by (with_reducible repeat (first|apply Kd.R_alloc|apply Kd.R_drewN|apply Kd.R_drew));exact HO177.out))) (Kd.R_lt (by (with_reducible repeat (first|apply Kd.R_alloc|apply Kd.R_drewN|apply Kd.R_drew));exact HO184.out))) (g:=gb173) (o:=.cells #[.int .i64 (wrap64 (-(ji4))),.int .i64 (Int.tmod (wrap64 (a1)) (ji6))] 41 (0,0)) (by (with_reducible repeat (first|refine blk_drewN ?_ _|refine blk_drew ?_|refine blk_alloc ?_ _));exact BK173.out)) (g:=gb174) (o:=.cells #[.int .i64 (wrap64 (-(ji4))),.int .i64 (Int.tmod (wrap64 (a2)) (ji6))] 41 (0,0)) (by (with_reducible repeat (first|refine blk_drewN ?_ _|refine blk_drew ?_|refine blk_alloc ?_ _));exact BK174.out)) (below_size (by repeat (first|(with_reducible first|exact HB.out|apply below_alloc|apply pw_below_drewN|apply below_drew1|refine below_set ?_ GE173.out|refine below_set ?_ GE174.out)|exact HB.out))));have n6_:=aMx13 (blk_below (g:=gb173) (o:=.cells #[.int .i64 (wrap64 (-(ji4))),.int .i64 (Int.tmod (wrap64 (a1)) (ji6))] 41 (0,0)) (by (with_reducible repeat (first|refine blk_drewN ?_ _|refine blk_drew ?_|refine blk_alloc ?_ _));exact BK173.out) hb);have n7_:=aMx13 (blk_below (g:=gb174) (o:=.cells #[.int .i64 (wrap64 (-(ji4))),.int .i64 (Int.tmod (wrap64 (a2)) (ji6))] 41 (0,0)) (by (with_reducible repeat (first|refine blk_drewN ?_ _|refine blk_drew ?_|refine blk_alloc ?_ _));exact BK174.out) hb);have n8_:=aMx13 (below_step (by repeat (first|(with_reducible first|exact HB.out|apply below_alloc|apply pw_below_drewN|apply below_drew1|refine below_set ?_ GE173.out|refine below_set ?_ GE174.out)|exact HB.out)) hb);clear HO177;clear HO181;clear HO184;clear HO188;clear HO191;clear BK173;clear BK174;clear HB;have HO177:=n0_;have HO181:=n1_;have HO184:=n2_;have HO188:=n3_;have HO191:=n4_;have HO195:=n5_;have BK173:=n6_;have BK174:=n7_;have HB:=n8_;clear n0_ n1_ n2_ n3_ n4_ n5_ n6_ n7_ n8_;(try clear hb);(try clear hb2);(try clear hk);(try clear hi);(try clear ho0)))
      have n0_:=aMx13 (Kd.R_drew HO177.out)
      have n1_:=aMx13 (Kd.R_drew HO181.out)
      have n2_:=aMx13 (Kd.R_drew HO184.out)
      have n3_:=aMx13 (Kd.R_drew HO188.out)
      have n4_:=aMx13 (Kd.R_drew HO191.out)
      have n5_:=aMx13 (Kd.R_drew HO195.out)
      have n6_:=aMx13 (blk_drew BK173.out)
      have n7_:=aMx13 (blk_drew BK174.out)
      have n8_:=aMx13 (below_drew1 HB.out)
      clear HO177
      clear HO181
      clear HO184
      clear HO188
      clear HO191
      clear HO195
      clear BK173
      clear BK174
      clear HB
      have HO177:=n0_
      have HO181:=n1_
      have HO184:=n2_
      have HO188:=n3_
      have HO191:=n4_
      have HO195:=n5_
      have BK173:=n6_
      have BK174:=n7_
      have HB:=n8_
      clear n0_ n1_ n2_ n3_ n4_ n5_ n6_ n7_ n8_
      refine start_ (n:=29) (S:=fun w' => True) (ds:=[]) #[false,false,false,false,false,false,false,false,false,false,false,false,false,false,false,false,false,false,false,false,false,false,false,false,false,false,false,false,false] (by kernel_rfl) rfl rfl trivial (fun hHeld => ?_);refine with_tabW lapidarylaw06_CoderPlain.tab7 lapidarylaw06_CoderPlain.bits7 (fun HT_ HW_ => ?_)
      generalize w118.drew = w119 at HO177 HO181 HO184 HO188 HO191 HO195 BK173 BK174 HB hHeld ⊢
      refine pure_ (i:=0) (N:=some 56) (v:=?_) (a':=?_) #[true,false,false,false,false,false,false,false,false,false,false,false,false,false,false,false,false,false,false,false,false,false,false,false,false,false,false,false,false] rfl rfl (any_of HT_.out (by kernel_rfl)) (fun _ _ _ h => h) (Or.inl ⟨by rfl,?_⟩) ?_ ?_
      rotate_left
      ·intro w'
       go_simp
       with_reducible rfl
      rotate_left
      ·simp only [Act.put,sAx13,sBx13,sCx13,i64_w,i32_w]
       rfl
      refine pure_ (i:=1) (N:=some 57) (v:=?_) (a':=?_) #[true,true,false,false,false,false,false,false,false,false,false,false,false,false,false,false,false,false,false,false,false,false,false,false,false,false,false,false,false] rfl rfl (any_of HT_.out (by kernel_rfl)) (fun _ _ _ h => h) (Or.inl ⟨by rfl,?_⟩) ?_ ?_
      rotate_left
      ·intro w'
       go_simp
       with_reducible rfl
      rotate_left
      ·simp only [Act.put,sAx13,sBx13,sCx13,i64_w,i32_w]
       rfl
      refine pure_ (i:=2) (N:=some 58) (v:=?_) (a':=?_) #[true,true,true,false,false,false,false,false,false,false,false,false,false,false,false,false,false,false,false,false,false,false,false,false,false,false,false,false,false] rfl rfl (any_of HT_.out (by kernel_rfl)) (fun _ _ _ h => h) (Or.inl ⟨by rfl,?_⟩) ?_ ?_
      rotate_left
      ·intro w'
       go_simp
       with_reducible rfl
      rotate_left
      ·simp only [Act.put,sAx13,sBx13,sCx13,i64_w,i32_w]
       rfl
      refine pure_ (i:=3) (N:=some 59) (v:=?_) (a':=?_) #[true,true,true,true,false,false,false,false,false,false,false,false,false,false,false,false,false,false,false,false,false,false,false,false,false,false,false,false,false] rfl rfl (any_of HT_.out (by kernel_rfl)) (fun _ _ _ h => h) (Or.inl ⟨by rfl,?_⟩) ?_ ?_
      rotate_left
      ·intro w'
       go_simp
       with_reducible rfl
      rotate_left
      ·simp only [Act.put,sAx13,sBx13,sCx13,i64_w,i32_w]
       rfl
      refine pure_ (i:=4) (N:=some 60) (v:=?_) (a':=?_) #[true,true,true,true,true,false,false,false,false,false,false,false,false,false,false,false,false,false,false,false,false,false,false,false,false,false,false,false,false] rfl rfl (any_of HT_.out (by kernel_rfl)) (fun _ _ _ h => h) (Or.inl ⟨by rfl,?_⟩) ?_ ?_
      rotate_left
      ·intro w'
       go_simp
       with_reducible rfl
      rotate_left
      ·simp only [Act.put,sAx13,sBx13,sCx13,i64_w,i32_w]
       rfl
      refine pure_ (i:=5) (N:=some 61) (v:=?_) (a':=?_) #[true,true,true,true,true,true,false,false,false,false,false,false,false,false,false,false,false,false,false,false,false,false,false,false,false,false,false,false,false] rfl rfl (any_of HT_.out (by kernel_rfl)) (fun _ _ _ h => h) (Or.inl ⟨by rfl,?_⟩) ?_ ?_
      rotate_left
      ·intro w'
       go_simp
       with_reducible rfl
      rotate_left
      ·simp only [Act.put,sAx13,sBx13,sCx13,i64_w,i32_w]
       rfl
      refine pure_ (i:=6) (N:=some 62) (v:=?_) (a':=?_) #[true,true,true,true,true,true,true,false,false,false,false,false,false,false,false,false,false,false,false,false,false,false,false,false,false,false,false,false,false] rfl rfl (any_of HT_.out (by kernel_rfl)) (fun _ _ _ h => h) (Or.inl ⟨by rfl,?_⟩) ?_ ?_
      rotate_left
      ·intro w'
       go_simp
       with_reducible rfl
      rotate_left
      ·simp only [Act.put,sAx13,sBx13,sCx13,i64_w,i32_w]
       rfl
      refine pure_ (i:=7) (N:=some 63) (v:=?_) (a':=?_) #[true,true,true,true,true,true,true,true,false,false,false,false,false,false,false,false,false,false,false,false,false,false,false,false,false,false,false,false,false] rfl rfl (any_of HT_.out (by kernel_rfl)) (fun _ _ _ h => h) (Or.inl ⟨by rfl,?_⟩) ?_ ?_
      rotate_left
      ·intro w'
       go_simp
       with_reducible rfl
      rotate_left
      ·simp only [Act.put,sAx13,sBx13,sCx13,i64_w,i32_w]
       rfl
      refine pure_ (i:=8) (N:=some 64) (v:=?_) (a':=?_) #[true,true,true,true,true,true,true,true,true,false,false,false,false,false,false,false,false,false,false,false,false,false,false,false,false,false,false,false,false] rfl rfl (any_of HT_.out (by kernel_rfl)) (fun _ _ _ h => h) (Or.inl ⟨by rfl,?_⟩) ?_ ?_
      rotate_left
      ·intro w'
       go_simp
       with_reducible rfl
      rotate_left
      ·simp only [Act.put,sAx13,sBx13,sCx13,i64_w,i32_w]
       rfl
      refine pure_ (i:=9) (N:=some 65) (v:=?_) (a':=?_) #[true,true,true,true,true,true,true,true,true,true,false,false,false,false,false,false,false,false,false,false,false,false,false,false,false,false,false,false,false] rfl rfl (any_of HT_.out (by kernel_rfl)) (fun _ _ _ h => h) (Or.inl ⟨by rfl,?_⟩) ?_ ?_
      rotate_left
      ·intro w'
       go_simp
       with_reducible rfl
      rotate_left
      ·simp only [Act.put,sAx13,sBx13,sCx13,i64_w,i32_w]
       rfl
      refine pure_ (i:=10) (N:=some 66) (v:=?_) (a':=?_) #[true,true,true,true,true,true,true,true,true,true,true,false,false,false,false,false,false,false,false,false,false,false,false,false,false,false,false,false,false] rfl rfl (any_of HT_.out (by kernel_rfl)) (fun _ _ _ h => h) (Or.inl ⟨by rfl,?_⟩) ?_ ?_
      rotate_left
      ·intro w'
       go_simp
       with_reducible rfl
      rotate_left
      ·simp only [Act.put,sAx13,sBx13,sCx13,i64_w,i32_w]
       rfl
      refine pure_ (i:=11) (N:=some 67) (v:=undef) (a':=?_) #[true,true,true,true,true,true,true,true,true,true,true,true,false,false,false,false,false,false,false,false,false,false,false,false,false,false,false,false,false] rfl rfl (any_of HT_.out (by kernel_rfl)) (fun _ _ _ h => h) (Or.inr ⟨by rfl,rfl⟩) ?_ ?_
      rotate_left
      ·simp only [Act.put,sAx13,sBx13,sCx13,i64_w,i32_w]
       rfl
      refine pure_ (i:=12) (N:=some 68) (v:=undef) (a':=?_) #[true,true,true,true,true,true,true,true,true,true,true,true,true,false,false,false,false,false,false,false,false,false,false,false,false,false,false,false,false] rfl rfl (any_of HT_.out (by kernel_rfl)) (fun _ _ _ h => h) (Or.inr ⟨by rfl,rfl⟩) ?_ ?_
      rotate_left
      ·simp only [Act.put,sAx13,sBx13,sCx13,i64_w,i32_w]
       rfl
      refine pure_ (i:=13) (N:=some 69) (v:=undef) (a':=?_) #[true,true,true,true,true,true,true,true,true,true,true,true,true,true,false,false,false,false,false,false,false,false,false,false,false,false,false,false,false] rfl rfl (any_of HT_.out (by kernel_rfl)) (fun _ _ _ h => h) (Or.inr ⟨by rfl,rfl⟩) ?_ ?_
      rotate_left
      ·simp only [Act.put,sAx13,sBx13,sCx13,i64_w,i32_w]
       rfl
      refine pure_ (i:=14) (N:=some 70) (v:=undef) (a':=?_) #[true,true,true,true,true,true,true,true,true,true,true,true,true,true,true,false,false,false,false,false,false,false,false,false,false,false,false,false,false] rfl rfl (any_of HT_.out (by kernel_rfl)) (fun _ _ _ h => h) (Or.inr ⟨by rfl,rfl⟩) ?_ ?_
      rotate_left
      ·simp only [Act.put,sAx13,sBx13,sCx13,i64_w,i32_w]
       rfl
      refine pure_ (i:=15) (N:=some 71) (v:=?_) (a':=?_) #[true,true,true,true,true,true,true,true,true,true,true,true,true,true,true,true,false,false,false,false,false,false,false,false,false,false,false,false,false] rfl rfl (any_of HT_.out (by kernel_rfl)) (fun _ _ _ h => h) (Or.inl ⟨by rfl,?_⟩) ?_ ?_
      rotate_left
      ·intro w'
       go_simp
       with_reducible rfl
      rotate_left
      ·simp only [Act.put,sAx13,sBx13,sCx13,i64_w,i32_w]
       rfl
      refine pure_ (i:=16) (N:=some 72) (v:=?_) (a':=?_) #[true,true,true,true,true,true,true,true,true,true,true,true,true,true,true,true,true,false,false,false,false,false,false,false,false,false,false,false,false] rfl rfl (any_of HT_.out (by kernel_rfl)) (fun _ _ _ h => h) (Or.inl ⟨by rfl,?_⟩) ?_ ?_
      rotate_left
      ·intro w'
       go_simp
       with_reducible rfl
      rotate_left
      ·simp only [Act.put,sAx13,sBx13,sCx13,i64_w,i32_w]
       rfl
      refine pure_ (i:=17) (N:=some 73) (v:=undef) (a':=?_) #[true,true,true,true,true,true,true,true,true,true,true,true,true,true,true,true,true,true,false,false,false,false,false,false,false,false,false,false,false] rfl rfl (any_of HT_.out (by kernel_rfl)) (fun _ _ _ h => h) (Or.inr ⟨by rfl,rfl⟩) ?_ ?_
      rotate_left
      ·simp only [Act.put,sAx13,sBx13,sCx13,i64_w,i32_w]
       rfl
      refine pure_ (i:=18) (N:=some 74) (v:=undef) (a':=?_) #[true,true,true,true,true,true,true,true,true,true,true,true,true,true,true,true,true,true,true,false,false,false,false,false,false,false,false,false,false] rfl rfl (any_of HT_.out (by kernel_rfl)) (fun _ _ _ h => h) (Or.inr ⟨by rfl,rfl⟩) ?_ ?_
      rotate_left
      ·simp only [Act.put,sAx13,sBx13,sCx13,i64_w,i32_w]
       rfl
      refine pure_ (i:=19) (N:=some 75) (v:=undef) (a':=?_) #[true,true,true,true,true,true,true,true,true,true,true,true,true,true,true,true,true,true,true,true,false,false,false,false,false,false,false,false,false] rfl rfl (any_of HT_.out (by kernel_rfl)) (fun _ _ _ h => h) (Or.inr ⟨by rfl,rfl⟩) ?_ ?_
      rotate_left
      ·simp only [Act.put,sAx13,sBx13,sCx13,i64_w,i32_w]
       rfl
      refine pure_ (i:=20) (N:=some 76) (v:=undef) (a':=?_) #[true,true,true,true,true,true,true,true,true,true,true,true,true,true,true,true,true,true,true,true,true,false,false,false,false,false,false,false,false] rfl rfl (any_of HT_.out (by kernel_rfl)) (fun _ _ _ h => h) (Or.inr ⟨by rfl,rfl⟩) ?_ ?_
      rotate_left
      ·simp only [Act.put,sAx13,sBx13,sCx13,i64_w,i32_w]
       rfl
      refine pure_ (i:=21) (N:=some 77) (v:=undef) (a':=?_) #[true,true,true,true,true,true,true,true,true,true,true,true,true,true,true,true,true,true,true,true,true,true,false,false,false,false,false,false,false] rfl rfl (any_of HT_.out (by kernel_rfl)) (fun _ _ _ h => h) (Or.inr ⟨by rfl,rfl⟩) ?_ ?_
      rotate_left
      ·simp only [Act.put,sAx13,sBx13,sCx13,i64_w,i32_w]
       rfl
      refine pure_ (i:=22) (N:=some 78) (v:=undef) (a':=?_) #[true,true,true,true,true,true,true,true,true,true,true,true,true,true,true,true,true,true,true,true,true,true,true,false,false,false,false,false,false] rfl rfl (any_of HT_.out (by kernel_rfl)) (fun _ _ _ h => h) (Or.inr ⟨by rfl,rfl⟩) ?_ ?_
      rotate_left
      ·simp only [Act.put,sAx13,sBx13,sCx13,i64_w,i32_w]
       rfl
      refine pure_ (i:=23) (N:=some 79) (v:=undef) (a':=?_) #[true,true,true,true,true,true,true,true,true,true,true,true,true,true,true,true,true,true,true,true,true,true,true,true,false,false,false,false,false] rfl rfl (any_of HT_.out (by kernel_rfl)) (fun _ _ _ h => h) (Or.inr ⟨by rfl,rfl⟩) ?_ ?_
      rotate_left
      ·simp only [Act.put,sAx13,sBx13,sCx13,i64_w,i32_w]
       rfl
      refine pure_ (i:=24) (N:=some 80) (v:=?_) (a':=?_) #[true,true,true,true,true,true,true,true,true,true,true,true,true,true,true,true,true,true,true,true,true,true,true,true,true,false,false,false,false] rfl rfl (any_of HT_.out (by kernel_rfl)) (fun _ _ _ h => h) (Or.inl ⟨by rfl,?_⟩) ?_ ?_
      rotate_left
      ·intro w'
       go_simp
       with_reducible rfl
      rotate_left
      ·simp only [Act.put,sAx13,sBx13,sCx13,i64_w,i32_w]
       rfl
      refine pure_ (i:=25) (N:=some 81) (v:=?_) (a':=?_) #[true,true,true,true,true,true,true,true,true,true,true,true,true,true,true,true,true,true,true,true,true,true,true,true,true,true,false,false,false] rfl rfl (any_of HT_.out (by kernel_rfl)) (fun _ _ _ h => h) (Or.inl ⟨by rfl,?_⟩) ?_ ?_
      rotate_left
      ·intro w'
       go_simp
       with_reducible rfl
      rotate_left
      ·simp only [Act.put,sAx13,sBx13,sCx13,i64_w,i32_w]
       rfl
      refine pure_ (i:=26) (N:=some 82) (v:=undef) (a':=?_) #[true,true,true,true,true,true,true,true,true,true,true,true,true,true,true,true,true,true,true,true,true,true,true,true,true,true,true,false,false] rfl rfl (any_of HT_.out (by kernel_rfl)) (fun _ _ _ h => h) (Or.inr ⟨by rfl,rfl⟩) ?_ ?_
      rotate_left
      ·simp only [Act.put,sAx13,sBx13,sCx13,i64_w,i32_w]
       rfl
      refine pure_ (i:=27) (N:=some 83) (v:=?_) (a':=?_) #[true,true,true,true,true,true,true,true,true,true,true,true,true,true,true,true,true,true,true,true,true,true,true,true,true,true,true,true,false] rfl rfl (any_of HT_.out (by kernel_rfl)) (fun _ _ _ h => h) (Or.inl ⟨by rfl,?_⟩) ?_ ?_
      rotate_left
      ·intro w'
       go_simp
       with_reducible rfl
      rotate_left
      ·simp only [Act.put,sAx13,sBx13,sCx13,i64_w,i32_w]
       rfl
      refine pure_ (i:=28) (N:=some 6) (v:=?_) (a':=?_) #[true,true,true,true,true,true,true,true,true,true,true,true,true,true,true,true,true,true,true,true,true,true,true,true,true,true,true,true,true] rfl rfl (any_of HT_.out (by kernel_rfl)) (fun _ _ _ h => h) (Or.inl ⟨by rfl,?_⟩) ?_ ?_
      rotate_left
      ·intro w'
       go_simp
       with_reducible rfl
      rotate_left
      ·simp only [Act.put,sAx13,sBx13,sCx13,i64_w,i32_w]
       rfl
      refine done_ (done_of HT_.out (by kernel_rfl)) ?_
      try go_wp2
      go_ret
      exact ⟨by first | rfl | (simp [errW_none,errW_some]<;>rfl) | (simp only [← hji4,← hji6];first | rfl | (simp [errW_none,errW_some]<;>rfl)) | (simp [*,errW_none,errW_some]<;>rfl),by repeat (first | (with_reducible first | exact HB.out | apply below_alloc | apply pw_below_drewN | apply below_drew1 | refine below_set ?_ GE173.out | refine below_set ?_ GE174.out) | exact HB.out)⟩
    ·rw [if_neg c14] at H
     have c14b0 : (t186 == 0) = false:=beq_eq_false_iff_ne.mpr c14
     have c14b1 : (t186 != 0) = true:=bne_iff_ne.mpr c14
     obtain rfl:=Option.some.inj H
     go_enter Try.func8,Try.ntmps8
     try go_wp2_with (first|((with_reducible refine gate_dst (N:=8) rfl ?_);(try (refine gate_guard (by rfl) ?_;dsimp only));refine box_event ?hg (N:=8) ?hd (cs:=#[.int .i64 0,.int .i64 0]) (t:=41) ?hr ?_;(case hd => rfl);(case hg => rfl);(case hr => first|(go_simp;done)|(go_simp;rfl));intro gb173 hg w120 hbox hb;have n0_:=aMx13 (below_step (by repeat (with_reducible first|exact HB.out|apply below_alloc|apply pw_below_drewN|apply below_drew1)) hb);have n1_:=aMx13 (hbox);have n2_:=aMx13 ((by rw [hg];exact (below_size (by repeat (with_reducible first|exact HB.out|apply below_alloc|apply pw_below_drewN|apply below_drew1))) : w.heap.size ≤ gb173));have n3_:=aMx13 ((by rw [hg];exact (below_size (by repeat (with_reducible first|exact HB.out|apply below_alloc|apply pw_below_drewN|apply below_drew1))) : w.heap.size ≤ gb173));clear HB;have HB:=n0_;have BK173:=n1_;have GW173:=n2_;have GE173:=n3_;clear n0_ n1_ n2_ n3_;clear hb hbox hg;have hcz121_0 : w120.cell? ⟨gb173,0,none⟩ = some (.int .i64 0):=(blk_cell BK173.out 0).trans rfl;have hcz121_1 : w120.cell? ⟨gb173,1,none⟩ = some (.int .i64 0):=(blk_cell BK173.out 1).trans rfl;have hfz121_0:=blk_frozen BK173.out 0;have hfz121_1:=blk_frozen BK173.out 1)|((with_reducible refine gate_dst (N:=9) rfl ?_);(try (refine gate_guard (by rfl) ?_;dsimp only));refine box_event ?hg (N:=9) ?hd (cs:=#[.int .i64 0,.int .i64 0]) (t:=41) ?hr ?_;(case hd => rfl);(case hg => rfl);(case hr => first|(go_simp;done)|(go_simp;rfl));intro gb174 hg w122 hbox hb;have n0_:=aMx13 (blk_below (g:=gb173) (o:=.cells #[.int .i64 (wrap64 (-(ji4))),.int .i64 (Int.tmod (wrap64 (a1)) (ji6))] 41 (0,0)) (by (with_reducible repeat (first|refine blk_drewN ?_ _|refine blk_drew ?_|refine blk_alloc ?_ _));refine blk_put (cs:=#[.int .i64 (wrap64 (-(ji4))),.int .i64 0]) ?_ 1 _ rfl;(with_reducible repeat (first|refine blk_drewN ?_ _|refine blk_drew ?_|refine blk_alloc ?_ _));refine blk_put (cs:=#[.int .i64 0,.int .i64 0]) ?_ 0 _ rfl;(with_reducible repeat (first|refine blk_drewN ?_ _|refine blk_drew ?_|refine blk_alloc ?_ _));exact BK173.out) hb);have n1_:=aMx13 (below_step (by repeat (first|(with_reducible first|exact HB.out|apply below_alloc|apply pw_below_drewN|apply below_drew1|refine below_set ?_ GE173.out)|exact HB.out)) hb);have n2_:=aMx13 (hbox);have n3_:=aMx13 ((by rw [hg];exact (below_size (by repeat (first|(with_reducible first|exact HB.out|apply below_alloc|apply pw_below_drewN|apply below_drew1|refine below_set ?_ GE173.out)|exact HB.out))) : w.heap.size ≤ gb174));have n4_:=aMx13 ((by rw [hg];exact (below_size (by repeat (first|(with_reducible first|exact HB.out|apply below_alloc|apply pw_below_drewN|apply below_drew1|refine below_set ?_ GE173.out)|exact HB.out))) : w.heap.size ≤ gb174));have n5_:=aMx13 ((by rw [hg];exact Nat.ne_of_lt (blk_lt (g:=gb173) (o:=.cells #[.int .i64 (wrap64 (-(ji4))),.int .i64 (Int.tmod (wrap64 (a1)) (ji6))] 41 (0,0)) (by (with_reducible repeat (first|refine blk_drewN ?_ _|refine blk_drew ?_|refine blk_alloc ?_ _));refine blk_put (cs:=#[.int .i64 (wrap64 (-(ji4))),.int .i64 0]) ?_ 1 _ rfl;(with_reducible repeat (first|refine blk_drewN ?_ _|refine blk_drew ?_|refine blk_alloc ?_ _));refine blk_put (cs:=#[.int .i64 0,.int .i64 0]) ?_ 0 _ rfl;(with_reducible repeat (first|refine blk_drewN ?_ _|refine blk_drew ?_|refine blk_alloc ?_ _));exact BK173.out)) : gb173 ≠ gb174));have n6_:=aMx13 ((by rw [hg];exact Nat.ne_of_gt (blk_lt (g:=gb173) (o:=.cells #[.int .i64 (wrap64 (-(ji4))),.int .i64 (Int.tmod (wrap64 (a1)) (ji6))] 41 (0,0)) (by (with_reducible repeat (first|refine blk_drewN ?_ _|refine blk_drew ?_|refine blk_alloc ?_ _));refine blk_put (cs:=#[.int .i64 (wrap64 (-(ji4))),.int .i64 0]) ?_ 1 _ rfl;(with_reducible repeat (first|refine blk_drewN ?_ _|refine blk_drew ?_|refine blk_alloc ?_ _));refine blk_put (cs:=#[.int .i64 0,.int .i64 0]) ?_ 0 _ rfl;(with_reducible repeat (first|refine blk_drewN ?_ _|refine blk_drew ?_|refine blk_alloc ?_ _));exact BK173.out)) : gb174 ≠ gb173));clear BK173;clear HB;have BK173:=n0_;have HB:=n1_;have BK174:=n2_;have GW174:=n3_;have GE174:=n4_;have NB173_174:=n5_;have NB174_173:=n6_;clear n0_ n1_ n2_ n3_ n4_ n5_ n6_;clear hb hbox hg;have hnb123:=NB174_173.out;have hnc123:=NB173_174.out;have hcz124_0 : w122.cell? ⟨gb174,0,none⟩ = some (.int .i64 0):=(blk_cell BK174.out 0).trans rfl;have hcz124_1 : w122.cell? ⟨gb174,1,none⟩ = some (.int .i64 0):=(blk_cell BK174.out 1).trans rfl;have hfz124_0:=blk_frozen BK174.out 0;have hfz124_1:=blk_frozen BK174.out 1;have hcz125_0 : w122.cell? ⟨gb173,0,none⟩ = some (.int .i64 (wrap64 (-(ji4)))):=(blk_cell BK173.out 0).trans rfl;have hcz125_1 : w122.cell? ⟨gb173,1,none⟩ = some (.int .i64 (Int.tmod (wrap64 (a1)) (ji6))):=(blk_cell BK173.out 1).trans rfl;have hfz125_0:=blk_frozen BK173.out 0;have hfz125_1:=blk_frozen BK173.out 1)|((with_reducible refine gate_dst (N:=38) rfl ?_);(try (refine gate_guard (by rfl) ?_;dsimp only));refine Kd.R_lit k41 _ 41 ?hg (N:=38) ?hd (xs:=([(⟨wrap64 (-(ji4)),Int.tmod (wrap64 (a1)) (ji6)⟩ : S41)] : List (S41))) (inner:=[.int .i64 (wrap64 (-(ji4))),.int .i64 (Int.tmod (wrap64 (a1)) (ji6))]) (ok:=fun _ => True) (okp:=fun _ => True) ?hr ?hp (fun _ hk => hk) trivial (Below.refl _ _) (Nat.le_refl _) (by simp) ?_;(case hd => rfl);(case hg => rfl);(case hr => first|(go_simp;done)|(go_simp;rfl));(case hp => exact (Reps.c2 (show Kd.M k41 _ _ _ (⟨wrap64 (-(ji4)),Int.tmod (wrap64 (a1)) (ji6)⟩ : S41) [.int .i64 (wrap64 (-(ji4))),.int .i64 (Int.tmod (wrap64 (a1)) (ji6))] from (k41_mkM _ _ _ (⟨wrap64 (-(ji4)),Int.tmod (wrap64 (a1)) (ji6)⟩ : S41) )) (Reps.none _ _)));intro v176 w126 ho127 hb hg_ hnew_;clear hg_ hnew_;(first|rw [← Ny175.out] at ho127|(simp only [Int.reduceToNat] at ho127;rw [← Ny175.out] at ho127));have n0_:=aMx13 (Kd.R_lower (Kd.R_newB (Kd.R_newB ho127 (g:=gb173) (o:=.cells #[.int .i64 (wrap64 (-(ji4))),.int .i64 (Int.tmod (wrap64 (a1)) (ji6))] 41 (0,0)) (by (with_reducible repeat (first|refine blk_drewN ?_ _|refine blk_drew ?_|refine blk_alloc ?_ _));refine blk_far ?_ NB173_174.out _;(with_reducible repeat (first|refine blk_drewN ?_ _|refine blk_drew ?_|refine blk_alloc ?_ _));refine blk_far ?_ NB173_174.out _;(with_reducible repeat (first|refine blk_drewN ?_ _|refine blk_drew ?_|refine blk_alloc ?_ _));exact BK173.out)) (g:=gb174) (o:=.cells #[.int .i64 (wrap64 (-(ji4))),.int .i64 (Int.tmod (wrap64 (a2)) (ji6))] 41 (0,0)) (by (with_reducible repeat (first|refine blk_drewN ?_ _|refine blk_drew ?_|refine blk_alloc ?_ _));refine blk_put (cs:=#[.int .i64 (wrap64 (-(ji4))),.int .i64 0]) ?_ 1 _ rfl;(with_reducible repeat (first|refine blk_drewN ?_ _|refine blk_drew ?_|refine blk_alloc ?_ _));refine blk_put (cs:=#[.int .i64 0,.int .i64 0]) ?_ 0 _ rfl;(with_reducible repeat (first|refine blk_drewN ?_ _|refine blk_drew ?_|refine blk_alloc ?_ _));exact BK174.out)) (below_size (by repeat (first|(with_reducible first|exact HB.out|apply below_alloc|apply pw_below_drewN|apply below_drew1|refine below_set ?_ GE173.out|refine below_set ?_ GE174.out)|exact HB.out))));have n1_:=aMx13 (blk_below (g:=gb173) (o:=.cells #[.int .i64 (wrap64 (-(ji4))),.int .i64 (Int.tmod (wrap64 (a1)) (ji6))] 41 (0,0)) (by (with_reducible repeat (first|refine blk_drewN ?_ _|refine blk_drew ?_|refine blk_alloc ?_ _));refine blk_far ?_ NB173_174.out _;(with_reducible repeat (first|refine blk_drewN ?_ _|refine blk_drew ?_|refine blk_alloc ?_ _));refine blk_far ?_ NB173_174.out _;(with_reducible repeat (first|refine blk_drewN ?_ _|refine blk_drew ?_|refine blk_alloc ?_ _));exact BK173.out) hb);have n2_:=aMx13 (blk_below (g:=gb174) (o:=.cells #[.int .i64 (wrap64 (-(ji4))),.int .i64 (Int.tmod (wrap64 (a2)) (ji6))] 41 (0,0)) (by (with_reducible repeat (first|refine blk_drewN ?_ _|refine blk_drew ?_|refine blk_alloc ?_ _));refine blk_put (cs:=#[.int .i64 (wrap64 (-(ji4))),.int .i64 0]) ?_ 1 _ rfl;(with_reducible repeat (first|refine blk_drewN ?_ _|refine blk_drew ?_|refine blk_alloc ?_ _));refine blk_put (cs:=#[.int .i64 0,.int .i64 0]) ?_ 0 _ rfl;(with_reducible repeat (first|refine blk_drewN ?_ _|refine blk_drew ?_|refine blk_alloc ?_ _));exact BK174.out) hb);have n3_:=aMx13 (below_step (by repeat (first|(with_reducible first|exact HB.out|apply below_alloc|apply pw_below_drewN|apply below_drew1|refine below_set ?_ GE173.out|refine below_set ?_ GE174.out)|exact HB.out)) hb);clear BK173;clear BK174;clear HB;have HO177:=n0_;have BK173:=n1_;have BK174:=n2_;have HB:=n3_;clear n0_ n1_ n2_ n3_;clear hb ho127;obtain ⟨Ao128,co128,eo128⟩:=Kd.R_slice HO177.out;subst eo128)|((with_reducible refine gate_callee (f:=12) rfl ?_);refine goesL_ (some 39) rfl rfl Try.func12 (by kernel_rfl) rfl #[.slice none 0 0,.slice Ao128 y175.length co128] rfl (by (try simp only [List.map_toArray,List.map_cons,List.map_nil]);first|done|rfl|(simp only [List.length_drop,List.length_take];rfl)) ?_;(refine (coder_Encode.calls _ _ ([] : List Int) _ _ y175 t178 t179 _ ?side1 ?side2 ?side3 ?side4 A10.out).mono ?_);(case side1 => exact Kd.C_nil _ _);(case side2 => exact Nat.le_refl _);(case side3 => repeat (first|exact (Kd.R_reads' HO177.out).2.2|(with_reducible first|refine Kd.C_alloc ?_ _|refine Kd.C_drewN ?_ _|refine Kd.C_drew ?_)));(case side4 => exact (Kd.R_reads' HO177.out).2.1);rintro e w129 ⟨v180,rfl,ho0,hb⟩;refine ⟨_,rfl,?_⟩;have n0_:=aMx13 (Kd.R_below (by (with_reducible repeat (first|apply Kd.R_alloc|apply Kd.R_drewN|apply Kd.R_drew));exact HO177.out) hb);have n1_:=aMx13 (Kd.R_lower ho0 (below_size (by repeat (first|(with_reducible first|exact HB.out|apply below_alloc|apply pw_below_drewN|apply below_drew1|refine below_set ?_ GE173.out|refine below_set ?_ GE174.out)|exact HB.out))));have n2_:=aMx13 (blk_below (g:=gb173) (o:=.cells #[.int .i64 (wrap64 (-(ji4))),.int .i64 (Int.tmod (wrap64 (a1)) (ji6))] 41 (0,0)) (by (with_reducible repeat (first|refine blk_drewN ?_ _|refine blk_drew ?_|refine blk_alloc ?_ _));exact BK173.out) hb);have n3_:=aMx13 (blk_below (g:=gb174) (o:=.cells #[.int .i64 (wrap64 (-(ji4))),.int .i64 (Int.tmod (wrap64 (a2)) (ji6))] 41 (0,0)) (by (with_reducible repeat (first|refine blk_drewN ?_ _|refine blk_drew ?_|refine blk_alloc ?_ _));exact BK174.out) hb);have n4_:=aMx13 (below_step (by repeat (first|(with_reducible first|exact HB.out|apply below_alloc|apply pw_below_drewN|apply below_drew1|refine below_set ?_ GE173.out|refine below_set ?_ GE174.out)|exact HB.out)) hb);clear HO177;clear BK173;clear BK174;clear HB;have HO177:=n0_;have HO181:=n1_;have BK173:=n2_;have BK174:=n3_;have HB:=n4_;clear n0_ n1_ n2_ n3_ n4_;(try clear hb);(try clear hb2);(try clear hk);(try clear hi);(try clear ho0);have hcz130_0 : w129.cell? ⟨gb174,0,none⟩ = some (.int .i64 (wrap64 (-(ji4)))):=(blk_cell BK174.out 0).trans rfl;have hcz130_1 : w129.cell? ⟨gb174,1,none⟩ = some (.int .i64 (Int.tmod (wrap64 (a2)) (ji6))):=(blk_cell BK174.out 1).trans rfl;have hfz130_0:=blk_frozen BK174.out 0;have hfz130_1:=blk_frozen BK174.out 1)|((with_reducible refine gate_dst (N:=44) rfl ?_);(try (refine gate_guard (by rfl) ?_;dsimp only));refine Kd.R_lit k41 _ 41 ?hg (N:=44) ?hd (xs:=([(⟨wrap64 (-(ji4)),Int.tmod (wrap64 (a2)) (ji6)⟩ : S41)] : List (S41))) (inner:=[.int .i64 (wrap64 (-(ji4))),.int .i64 (Int.tmod (wrap64 (a2)) (ji6))]) (ok:=fun _ => True) (okp:=fun _ => True) ?hr ?hp (fun _ hk => hk) trivial (Below.refl _ _) (Nat.le_refl _) (by simp) ?_;(case hd => rfl);(case hg => rfl);(case hr => first|(go_simp;done)|(go_simp;rfl));(case hp => exact (Reps.c2 (show Kd.M k41 _ _ _ (⟨wrap64 (-(ji4)),Int.tmod (wrap64 (a2)) (ji6)⟩ : S41) [.int .i64 (wrap64 (-(ji4))),.int .i64 (Int.tmod (wrap64 (a2)) (ji6))] from (k41_mkM _ _ _ (⟨wrap64 (-(ji4)),Int.tmod (wrap64 (a2)) (ji6)⟩ : S41) )) (Reps.none _ _)));intro v183 w131 ho132 hb hg_ hnew_;clear hg_ hnew_;(first|rw [← Ny182.out] at ho132|(simp only [Int.reduceToNat] at ho132;rw [← Ny182.out] at ho132));have n0_:=aMx13 (Kd.R_elder' (by (with_reducible repeat (first|apply Kd.R_alloc|apply Kd.R_drewN|apply Kd.R_drew));exact HO177.out) (Kd.R_base ho132) hb);have n1_:=aMx13 (Kd.R_below (by (with_reducible repeat (first|apply Kd.R_alloc|apply Kd.R_drewN|apply Kd.R_drew));exact HO181.out) hb);have n2_:=aMx13 (Kd.R_lower (Kd.R_newB (Kd.R_newB (Kd.R_new' ho132 (Kd.R_lt (by (with_reducible repeat (first|apply Kd.R_alloc|apply Kd.R_drewN|apply Kd.R_drew));exact HO177.out))) (g:=gb173) (o:=.cells #[.int .i64 (wrap64 (-(ji4))),.int .i64 (Int.tmod (wrap64 (a1)) (ji6))] 41 (0,0)) (by (with_reducible repeat (first|refine blk_drewN ?_ _|refine blk_drew ?_|refine blk_alloc ?_ _));exact BK173.out)) (g:=gb174) (o:=.cells #[.int .i64 (wrap64 (-(ji4))),.int .i64 (Int.tmod (wrap64 (a2)) (ji6))] 41 (0,0)) (by (with_reducible repeat (first|refine blk_drewN ?_ _|refine blk_drew ?_|refine blk_alloc ?_ _));exact BK174.out)) (below_size (by repeat (first|(with_reducible first|exact HB.out|apply below_alloc|apply pw_below_drewN|apply below_drew1|refine below_set ?_ GE173.out|refine below_set ?_ GE174.out)|exact HB.out))));have n3_:=aMx13 (blk_below (g:=gb173) (o:=.cells #[.int .i64 (wrap64 (-(ji4))),.int .i64 (Int.tmod (wrap64 (a1)) (ji6))] 41 (0,0)) (by (with_reducible repeat (first|refine blk_drewN ?_ _|refine blk_drew ?_|refine blk_alloc ?_ _));exact BK173.out) hb);have n4_:=aMx13 (blk_below (g:=gb174) (o:=.cells #[.int .i64 (wrap64 (-(ji4))),.int .i64 (Int.tmod (wrap64 (a2)) (ji6))] 41 (0,0)) (by (with_reducible repeat (first|refine blk_drewN ?_ _|refine blk_drew ?_|refine blk_alloc ?_ _));exact BK174.out) hb);have n5_:=aMx13 (below_step (by repeat (first|(with_reducible first|exact HB.out|apply below_alloc|apply pw_below_drewN|apply below_drew1|refine below_set ?_ GE173.out|refine below_set ?_ GE174.out)|exact HB.out)) hb);clear HO177;clear HO181;clear BK173;clear BK174;clear HB;have HO177:=n0_;have HO181:=n1_;have HO184:=n2_;have BK173:=n3_;have BK174:=n4_;have HB:=n5_;clear n0_ n1_ n2_ n3_ n4_ n5_;clear hb ho132;obtain ⟨Ao133,co133,eo133⟩:=Kd.R_slice HO184.out;subst eo133)|((with_reducible refine gate_callee (f:=12) rfl ?_);refine goesL_ (some 45) rfl rfl Try.func12 (by kernel_rfl) rfl #[.slice none 0 0,.slice Ao133 y182.length co133] rfl (by (try simp only [List.map_toArray,List.map_cons,List.map_nil]);first|done|rfl|(simp only [List.length_drop,List.length_take];rfl)) ?_;(refine (coder_Encode.calls _ _ ([] : List Int) _ _ y182 t185 t186 _ ?side1 ?side2 ?side3 ?side4 A11.out).mono ?_);(case side1 => exact Kd.C_nil _ _);(case side2 => exact Nat.le_refl _);(case side3 => repeat (first|exact (Kd.R_reads' HO184.out).2.2|(with_reducible first|refine Kd.C_alloc ?_ _|refine Kd.C_drewN ?_ _|refine Kd.C_drew ?_)));(case side4 => exact (Kd.R_reads' HO184.out).2.1);rintro e w134 ⟨v187,rfl,ho0,hb⟩;refine ⟨_,rfl,?_⟩;have n0_:=aMx13 (Kd.R_below (by (with_reducible repeat (first|apply Kd.R_alloc|apply Kd.R_drewN|apply Kd.R_drew));exact HO177.out) hb);have n1_:=aMx13 (Kd.R_elder' (by (with_reducible repeat (first|apply Kd.R_alloc|apply Kd.R_drewN|apply Kd.R_drew));exact HO181.out) (Kd.R_base ho0) hb);have n2_:=aMx13 (Kd.R_below (by (with_reducible repeat (first|apply Kd.R_alloc|apply Kd.R_drewN|apply Kd.R_drew));exact HO184.out) hb);have n3_:=aMx13 (Kd.R_lower (Kd.R_new' ho0 (Kd.R_lt (by (with_reducible repeat (first|apply Kd.R_alloc|apply Kd.R_drewN|apply Kd.R_drew));exact HO181.out))) (below_size (by repeat (first|(with_reducible first|exact HB.out|apply below_alloc|apply pw_below_drewN|apply below_drew1|refine below_set ?_ GE173.out|refine below_set ?_ GE174.out)|exact HB.out))));have n4_:=aMx13 (blk_below (g:=gb173) (o:=.cells #[.int .i64 (wrap64 (-(ji4))),.int .i64 (Int.tmod (wrap64 (a1)) (ji6))] 41 (0,0)) (by (with_reducible repeat (first|refine blk_drewN ?_ _|refine blk_drew ?_|refine blk_alloc ?_ _));exact BK173.out) hb);have n5_:=aMx13 (blk_below (g:=gb174) (o:=.cells #[.int .i64 (wrap64 (-(ji4))),.int .i64 (Int.tmod (wrap64 (a2)) (ji6))] 41 (0,0)) (by (with_reducible repeat (first|refine blk_drewN ?_ _|refine blk_drew ?_|refine blk_alloc ?_ _));exact BK174.out) hb);have n6_:=aMx13 (below_step (by repeat (first|(with_reducible first|exact HB.out|apply below_alloc|apply pw_below_drewN|apply below_drew1|refine below_set ?_ GE173.out|refine below_set ?_ GE174.out)|exact HB.out)) hb);clear HO177;clear HO181;clear HO184;clear BK173;clear BK174;clear HB;have HO177:=n0_;have HO181:=n1_;have HO184:=n2_;have HO188:=n3_;have BK173:=n4_;have BK174:=n5_;have HB:=n6_;clear n0_ n1_ n2_ n3_ n4_ n5_ n6_;(try clear hb);(try clear hb2);(try clear hk);(try clear hi);(try clear ho0))|((with_reducible refine gate_dst (N:=51) rfl ?_);(try (refine gate_guard (by rfl) ?_;dsimp only));refine Kd.R_lit (Kd.int .i64) _ 3 ?hg (N:=51) ?hd (xs:=([wrap64 (-(ji4))] : List Int)) (inner:=[.int .i64 (wrap64 (-(ji4)))]) (ok:=fun _ => True) (okp:=fun _ => True) ?hr ?hp (fun _ hk => hk) trivial (Below.refl _ _) (Nat.le_refl _) (by simp) ?_;(case hd => rfl);(case hg => rfl);(case hr => first|(go_simp;done)|(go_simp;rfl));(case hp => exact (Reps.one (show Kd.M (Kd.int .i64) _ _ _ (wrap64 (-(ji4))) [.int .i64 (wrap64 (-(ji4)))] from rfl) (Reps.none _ _)));intro v190 w135 ho136 hb hg_ hnew_;clear hg_ hnew_;(first|rw [← Ny189.out] at ho136|(simp only [Int.reduceToNat] at ho136;rw [← Ny189.out] at ho136));have n0_:=aMx13 (Kd.R_below (by (with_reducible repeat (first|apply Kd.R_alloc|apply Kd.R_drewN|apply Kd.R_drew));exact HO177.out) hb);have n1_:=aMx13 (Kd.R_below (by (with_reducible repeat (first|apply Kd.R_alloc|apply Kd.R_drewN|apply Kd.R_drew));exact HO181.out) hb);have n2_:=aMx13 (Kd.R_below (by (with_reducible repeat (first|apply Kd.R_alloc|apply Kd.R_drewN|apply Kd.R_drew));exact HO184.out) hb);have n3_:=aMx13 (Kd.R_below (by (with_reducible repeat (first|apply Kd.R_alloc|apply Kd.R_drewN|apply Kd.R_drew));exact HO188.out) hb);have n4_:=aMx13 (Kd.R_lower ho136 (below_size (by repeat (first|(with_reducible first|exact HB.out|apply below_alloc|apply pw_below_drewN|apply below_drew1|refine below_set ?_ GE173.out|refine below_set ?_ GE174.out)|exact HB.out))));have n5_:=aMx13 (blk_below (g:=gb173) (o:=.cells #[.int .i64 (wrap64 (-(ji4))),.int .i64 (Int.tmod (wrap64 (a1)) (ji6))] 41 (0,0)) (by (with_reducible repeat (first|refine blk_drewN ?_ _|refine blk_drew ?_|refine blk_alloc ?_ _));exact BK173.out) hb);have n6_:=aMx13 (blk_below (g:=gb174) (o:=.cells #[.int .i64 (wrap64 (-(ji4))),.int .i64 (Int.tmod (wrap64 (a2)) (ji6))] 41 (0,0)) (by (with_reducible repeat (first|refine blk_drewN ?_ _|refine blk_drew ?_|refine blk_alloc ?_ _));exact BK174.out) hb);have n7_:=aMx13 (below_step (by repeat (first|(with_reducible first|exact HB.out|apply below_alloc|apply pw_below_drewN|apply below_drew1|refine below_set ?_ GE173.out|refine below_set ?_ GE174.out)|exact HB.out)) hb);clear HO177;clear HO181;clear HO184;clear HO188;clear BK173;clear BK174;clear HB;have HO177:=n0_;have HO181:=n1_;have HO184:=n2_;have HO188:=n3_;have HO191:=n4_;have BK173:=n5_;have BK174:=n6_;have HB:=n7_;clear n0_ n1_ n2_ n3_ n4_ n5_ n6_ n7_;clear hb ho136;obtain ⟨Ao137,co137,eo137⟩:=Kd.R_slice HO191.out;subst eo137;obtain ⟨Ao138,co138,eo138⟩:=Kd.R_slice HO181.out;subst eo138)|((with_reducible refine gate_callee (f:=15) rfl ?_);refine goesL_ (some 53) rfl rfl Try.func15 (by kernel_rfl) rfl #[.slice none 0 0,.slice Ao137 y189.length co137,.slice Ao138 t178.length co138] rfl (by (try simp only [List.map_toArray,List.map_cons,List.map_nil]);first|done|rfl|(simp only [List.length_drop,List.length_take];rfl)) ?_;(refine (coder_Decode.calls _ _ ([] : List Int) _ _ y189 _ _ t178 t192 t193 _ ?side1 ?side2 ?side3 ?side4 ?side5 ?side6 A12.out).mono ?_);(case side1 => exact Kd.C_nil _ _);(case side2 => exact Nat.le_refl _);(case side3 => repeat (first|exact (Kd.R_reads' HO191.out).2.2|(with_reducible first|refine Kd.C_alloc ?_ _|refine Kd.C_drewN ?_ _|refine Kd.C_drew ?_)));(case side4 => exact (Kd.R_reads' HO191.out).2.1);(case side5 => repeat (first|exact (Kd.R_reads' HO181.out).2.2|(with_reducible first|refine Kd.C_alloc ?_ _|refine Kd.C_drewN ?_ _|refine Kd.C_drew ?_)));(case side6 => exact (Kd.R_reads' HO181.out).2.1);rintro e w139 ⟨v194,rfl,ho0,hb⟩;refine ⟨_,rfl,?_⟩;have n0_:=aMx13 (Kd.R_elder' (by (with_reducible repeat (first|apply Kd.R_alloc|apply Kd.R_drewN|apply Kd.R_drew));exact HO177.out) (Kd.R_base ho0) hb);have n1_:=aMx13 (Kd.R_below (by (with_reducible repeat (first|apply Kd.R_alloc|apply Kd.R_drewN|apply Kd.R_drew));exact HO181.out) hb);have n2_:=aMx13 (Kd.R_elder' (by (with_reducible repeat (first|apply Kd.R_alloc|apply Kd.R_drewN|apply Kd.R_drew));exact HO184.out) (Kd.R_base ho0) hb);have n3_:=aMx13 (Kd.R_below (by (with_reducible repeat (first|apply Kd.R_alloc|apply Kd.R_drewN|apply Kd.R_drew));exact HO188.out) hb);have n4_:=aMx13 (Kd.R_below (by (with_reducible repeat (first|apply Kd.R_alloc|apply Kd.R_drewN|apply Kd.R_drew));exact HO191.out) hb);have n5_:=aMx13 (Kd.R_lower (Kd.R_newB (Kd.R_newB (Kd.R_new' (Kd.R_new' ho0 (Kd.R_lt (by (with_reducible repeat (first|apply Kd.R_alloc|apply Kd.R_drewN|apply Kd.R_drew));exact HO177.out))) (Kd.R_lt (by (with_reducible repeat (first|apply Kd.R_alloc|apply Kd.R_drewN|apply Kd.R_drew));exact HO184.out))) (g:=gb173) (o:=.cells #[.int .i64 (wrap64 (-(ji4))),.int .i64 (Int.tmod (wrap64 (a1)) (ji6))] 41 (0,0)) (by (with_reducible repeat (first|refine blk_drewN ?_ _|refine blk_drew ?_|refine blk_alloc ?_ _));exact BK173.out)) (g:=gb174) (o:=.cells #[.int .i64 (wrap64 (-(ji4))),.int .i64 (Int.tmod (wrap64 (a2)) (ji6))] 41 (0,0)) (by (with_reducible repeat (first|refine blk_drewN ?_ _|refine blk_drew ?_|refine blk_alloc ?_ _));exact BK174.out)) (below_size (by repeat (first|(with_reducible first|exact HB.out|apply below_alloc|apply pw_below_drewN|apply below_drew1|refine below_set ?_ GE173.out|refine below_set ?_ GE174.out)|exact HB.out))));have n6_:=aMx13 (blk_below (g:=gb173) (o:=.cells #[.int .i64 (wrap64 (-(ji4))),.int .i64 (Int.tmod (wrap64 (a1)) (ji6))] 41 (0,0)) (by (with_reducible repeat (first|refine blk_drewN ?_ _|refine blk_drew ?_|refine blk_alloc ?_ _));exact BK173.out) hb);have n7_:=aMx13 (blk_below (g:=gb174) (o:=.cells #[.int .i64 (wrap64 (-(ji4))),.int .i64 (Int.tmod (wrap64 (a2)) (ji6))] 41 (0,0)) (by (with_reducible repeat (first|refine blk_drewN ?_ _|refine blk_drew ?_|refine blk_alloc ?_ _));exact BK174.out) hb);have n8_:=aMx13 (below_step (by repeat (first|(with_reducible first|exact HB.out|apply below_alloc|apply pw_below_drewN|apply below_drew1|refine below_set ?_ GE173.out|refine below_set ?_ GE174.out)|exact HB.out)) hb);clear HO177;clear HO181;clear HO184;clear HO188;clear HO191;clear BK173;clear BK174;clear HB;have HO177:=n0_;have HO181:=n1_;have HO184:=n2_;have HO188:=n3_;have HO191:=n4_;have HO195:=n5_;have BK173:=n6_;have BK174:=n7_;have HB:=n8_;clear n0_ n1_ n2_ n3_ n4_ n5_ n6_ n7_ n8_;(try clear hb);(try clear hb2);(try clear hk);(try clear hi);(try clear ho0)))
     have n0_:=aMx13 (Kd.R_drew HO177.out)
     have n1_:=aMx13 (Kd.R_drew HO181.out)
     have n2_:=aMx13 (Kd.R_drew HO184.out)
     have n3_:=aMx13 (Kd.R_drew HO188.out)
     have n4_:=aMx13 (Kd.R_drew HO191.out)
     have n5_:=aMx13 (Kd.R_drew HO195.out)
     have n6_:=aMx13 (blk_drew BK173.out)
     have n7_:=aMx13 (blk_drew BK174.out)
     have n8_:=aMx13 (below_drew1 HB.out)
     clear HO177
     clear HO181
     clear HO184
     clear HO188
     clear HO191
     clear HO195
     clear BK173
     clear BK174
     clear HB
     have HO177:=n0_
     have HO181:=n1_
     have HO184:=n2_
     have HO188:=n3_
     have HO191:=n4_
     have HO195:=n5_
     have BK173:=n6_
     have BK174:=n7_
     have HB:=n8_
     clear n0_ n1_ n2_ n3_ n4_ n5_ n6_ n7_ n8_
     refine start_ (n:=29) (S:=fun w' => True) (ds:=[]) #[false,false,false,false,false,false,false,false,false,false,false,false,false,false,false,false,false,false,false,false,false,false,false,false,false,false,false,false,false] (by kernel_rfl) rfl rfl trivial (fun hHeld => ?_);refine with_tabW lapidarylaw06_CoderPlain.tab7 lapidarylaw06_CoderPlain.bits7 (fun HT_ HW_ => ?_)
     generalize w139.drew = w140 at HO177 HO181 HO184 HO188 HO191 HO195 BK173 BK174 HB hHeld ⊢
     refine pure_ (i:=0) (N:=some 56) (v:=?_) (a':=?_) #[true,false,false,false,false,false,false,false,false,false,false,false,false,false,false,false,false,false,false,false,false,false,false,false,false,false,false,false,false] rfl rfl (any_of HT_.out (by kernel_rfl)) (fun _ _ _ h => h) (Or.inl ⟨by rfl,?_⟩) ?_ ?_
     rotate_left
     ·intro w'
      go_simp
      with_reducible rfl
     rotate_left
     ·simp only [Act.put,sAx13,sBx13,sCx13,i64_w,i32_w]
      rfl
     refine pure_ (i:=1) (N:=some 57) (v:=?_) (a':=?_) #[true,true,false,false,false,false,false,false,false,false,false,false,false,false,false,false,false,false,false,false,false,false,false,false,false,false,false,false,false] rfl rfl (any_of HT_.out (by kernel_rfl)) (fun _ _ _ h => h) (Or.inl ⟨by rfl,?_⟩) ?_ ?_
     rotate_left
     ·intro w'
      go_simp
      with_reducible rfl
     rotate_left
     ·simp only [Act.put,sAx13,sBx13,sCx13,i64_w,i32_w]
      rfl
     refine pure_ (i:=2) (N:=some 58) (v:=?_) (a':=?_) #[true,true,true,false,false,false,false,false,false,false,false,false,false,false,false,false,false,false,false,false,false,false,false,false,false,false,false,false,false] rfl rfl (any_of HT_.out (by kernel_rfl)) (fun _ _ _ h => h) (Or.inl ⟨by rfl,?_⟩) ?_ ?_
     rotate_left
     ·intro w'
      go_simp
      with_reducible rfl
     rotate_left
     ·simp only [Act.put,sAx13,sBx13,sCx13,i64_w,i32_w]
      rfl
     refine pure_ (i:=3) (N:=some 59) (v:=?_) (a':=?_) #[true,true,true,true,false,false,false,false,false,false,false,false,false,false,false,false,false,false,false,false,false,false,false,false,false,false,false,false,false] rfl rfl (any_of HT_.out (by kernel_rfl)) (fun _ _ _ h => h) (Or.inl ⟨by rfl,?_⟩) ?_ ?_
     rotate_left
     ·intro w'
      go_simp
      with_reducible rfl
     rotate_left
     ·simp only [Act.put,sAx13,sBx13,sCx13,i64_w,i32_w]
      rfl
     refine pure_ (i:=4) (N:=some 60) (v:=?_) (a':=?_) #[true,true,true,true,true,false,false,false,false,false,false,false,false,false,false,false,false,false,false,false,false,false,false,false,false,false,false,false,false] rfl rfl (any_of HT_.out (by kernel_rfl)) (fun _ _ _ h => h) (Or.inl ⟨by rfl,?_⟩) ?_ ?_
     rotate_left
     ·intro w'
      go_simp
      with_reducible rfl
     rotate_left
     ·simp only [Act.put,sAx13,sBx13,sCx13,i64_w,i32_w]
      rfl
     refine pure_ (i:=5) (N:=some 61) (v:=?_) (a':=?_) #[true,true,true,true,true,true,false,false,false,false,false,false,false,false,false,false,false,false,false,false,false,false,false,false,false,false,false,false,false] rfl rfl (any_of HT_.out (by kernel_rfl)) (fun _ _ _ h => h) (Or.inl ⟨by rfl,?_⟩) ?_ ?_
     rotate_left
     ·intro w'
      go_simp
      with_reducible rfl
     rotate_left
     ·simp only [Act.put,sAx13,sBx13,sCx13,i64_w,i32_w]
      rfl
     refine pure_ (i:=6) (N:=some 62) (v:=?_) (a':=?_) #[true,true,true,true,true,true,true,false,false,false,false,false,false,false,false,false,false,false,false,false,false,false,false,false,false,false,false,false,false] rfl rfl (any_of HT_.out (by kernel_rfl)) (fun _ _ _ h => h) (Or.inl ⟨by rfl,?_⟩) ?_ ?_
     rotate_left
     ·intro w'
      go_simp
      with_reducible rfl
     rotate_left
     ·simp only [Act.put,sAx13,sBx13,sCx13,i64_w,i32_w]
      rfl
     refine pure_ (i:=7) (N:=some 63) (v:=undef) (a':=?_) #[true,true,true,true,true,true,true,true,false,false,false,false,false,false,false,false,false,false,false,false,false,false,false,false,false,false,false,false,false] rfl rfl (any_of HT_.out (by kernel_rfl)) (fun _ _ _ h => h) (Or.inr ⟨by rfl,rfl⟩) ?_ ?_
     rotate_left
     ·simp only [Act.put,sAx13,sBx13,sCx13,i64_w,i32_w]
      rfl
     refine pure_ (i:=8) (N:=some 64) (v:=undef) (a':=?_) #[true,true,true,true,true,true,true,true,true,false,false,false,false,false,false,false,false,false,false,false,false,false,false,false,false,false,false,false,false] rfl rfl (any_of HT_.out (by kernel_rfl)) (fun _ _ _ h => h) (Or.inr ⟨by rfl,rfl⟩) ?_ ?_
     rotate_left
     ·simp only [Act.put,sAx13,sBx13,sCx13,i64_w,i32_w]
      rfl
     refine pure_ (i:=9) (N:=some 65) (v:=?_) (a':=?_) #[true,true,true,true,true,true,true,true,true,true,false,false,false,false,false,false,false,false,false,false,false,false,false,false,false,false,false,false,false] rfl rfl (any_of HT_.out (by kernel_rfl)) (fun _ _ _ h => h) (Or.inl ⟨by rfl,?_⟩) ?_ ?_
     rotate_left
     ·intro w'
      go_simp
      with_reducible rfl
     rotate_left
     ·simp only [Act.put,sAx13,sBx13,sCx13,i64_w,i32_w]
      rfl
     refine pure_ (i:=10) (N:=some 66) (v:=?_) (a':=?_) #[true,true,true,true,true,true,true,true,true,true,true,false,false,false,false,false,false,false,false,false,false,false,false,false,false,false,false,false,false] rfl rfl (any_of HT_.out (by kernel_rfl)) (fun _ _ _ h => h) (Or.inl ⟨by rfl,?_⟩) ?_ ?_
     rotate_left
     ·intro w'
      go_simp
      with_reducible rfl
     rotate_left
     ·simp only [Act.put,sAx13,sBx13,sCx13,i64_w,i32_w]
      rfl
     refine pure_ (i:=11) (N:=some 67) (v:=undef) (a':=?_) #[true,true,true,true,true,true,true,true,true,true,true,true,false,false,false,false,false,false,false,false,false,false,false,false,false,false,false,false,false] rfl rfl (any_of HT_.out (by kernel_rfl)) (fun _ _ _ h => h) (Or.inr ⟨by rfl,rfl⟩) ?_ ?_
     rotate_left
     ·simp only [Act.put,sAx13,sBx13,sCx13,i64_w,i32_w]
      rfl
     refine pure_ (i:=12) (N:=some 68) (v:=undef) (a':=?_) #[true,true,true,true,true,true,true,true,true,true,true,true,true,false,false,false,false,false,false,false,false,false,false,false,false,false,false,false,false] rfl rfl (any_of HT_.out (by kernel_rfl)) (fun _ _ _ h => h) (Or.inr ⟨by rfl,rfl⟩) ?_ ?_
     rotate_left
     ·simp only [Act.put,sAx13,sBx13,sCx13,i64_w,i32_w]
      rfl
     refine pure_ (i:=13) (N:=some 69) (v:=undef) (a':=?_) #[true,true,true,true,true,true,true,true,true,true,true,true,true,true,false,false,false,false,false,false,false,false,false,false,false,false,false,false,false] rfl rfl (any_of HT_.out (by kernel_rfl)) (fun _ _ _ h => h) (Or.inr ⟨by rfl,rfl⟩) ?_ ?_
     rotate_left
     ·simp only [Act.put,sAx13,sBx13,sCx13,i64_w,i32_w]
      rfl
     refine pure_ (i:=14) (N:=some 70) (v:=undef) (a':=?_) #[true,true,true,true,true,true,true,true,true,true,true,true,true,true,true,false,false,false,false,false,false,false,false,false,false,false,false,false,false] rfl rfl (any_of HT_.out (by kernel_rfl)) (fun _ _ _ h => h) (Or.inr ⟨by rfl,rfl⟩) ?_ ?_
     rotate_left
     ·simp only [Act.put,sAx13,sBx13,sCx13,i64_w,i32_w]
      rfl
     refine pure_ (i:=15) (N:=some 71) (v:=?_) (a':=?_) #[true,true,true,true,true,true,true,true,true,true,true,true,true,true,true,true,false,false,false,false,false,false,false,false,false,false,false,false,false] rfl rfl (any_of HT_.out (by kernel_rfl)) (fun _ _ _ h => h) (Or.inl ⟨by rfl,?_⟩) ?_ ?_
     rotate_left
     ·intro w'
      go_simp
      with_reducible rfl
     rotate_left
     ·simp only [Act.put,sAx13,sBx13,sCx13,i64_w,i32_w]
      rfl
     refine pure_ (i:=16) (N:=some 72) (v:=?_) (a':=?_) #[true,true,true,true,true,true,true,true,true,true,true,true,true,true,true,true,true,false,false,false,false,false,false,false,false,false,false,false,false] rfl rfl (any_of HT_.out (by kernel_rfl)) (fun _ _ _ h => h) (Or.inl ⟨by rfl,?_⟩) ?_ ?_
     rotate_left
     ·intro w'
      go_simp
      with_reducible rfl
     rotate_left
     ·simp only [Act.put,sAx13,sBx13,sCx13,i64_w,i32_w]
      rfl
     refine pure_ (i:=17) (N:=some 73) (v:=undef) (a':=?_) #[true,true,true,true,true,true,true,true,true,true,true,true,true,true,true,true,true,true,false,false,false,false,false,false,false,false,false,false,false] rfl rfl (any_of HT_.out (by kernel_rfl)) (fun _ _ _ h => h) (Or.inr ⟨by rfl,rfl⟩) ?_ ?_
     rotate_left
     ·simp only [Act.put,sAx13,sBx13,sCx13,i64_w,i32_w]
      rfl
     refine pure_ (i:=18) (N:=some 74) (v:=undef) (a':=?_) #[true,true,true,true,true,true,true,true,true,true,true,true,true,true,true,true,true,true,true,false,false,false,false,false,false,false,false,false,false] rfl rfl (any_of HT_.out (by kernel_rfl)) (fun _ _ _ h => h) (Or.inr ⟨by rfl,rfl⟩) ?_ ?_
     rotate_left
     ·simp only [Act.put,sAx13,sBx13,sCx13,i64_w,i32_w]
      rfl
     refine pure_ (i:=19) (N:=some 75) (v:=undef) (a':=?_) #[true,true,true,true,true,true,true,true,true,true,true,true,true,true,true,true,true,true,true,true,false,false,false,false,false,false,false,false,false] rfl rfl (any_of HT_.out (by kernel_rfl)) (fun _ _ _ h => h) (Or.inr ⟨by rfl,rfl⟩) ?_ ?_
     rotate_left
     ·simp only [Act.put,sAx13,sBx13,sCx13,i64_w,i32_w]
      rfl
     refine pure_ (i:=20) (N:=some 76) (v:=undef) (a':=?_) #[true,true,true,true,true,true,true,true,true,true,true,true,true,true,true,true,true,true,true,true,true,false,false,false,false,false,false,false,false] rfl rfl (any_of HT_.out (by kernel_rfl)) (fun _ _ _ h => h) (Or.inr ⟨by rfl,rfl⟩) ?_ ?_
     rotate_left
     ·simp only [Act.put,sAx13,sBx13,sCx13,i64_w,i32_w]
      rfl
     refine pure_ (i:=21) (N:=some 77) (v:=undef) (a':=?_) #[true,true,true,true,true,true,true,true,true,true,true,true,true,true,true,true,true,true,true,true,true,true,false,false,false,false,false,false,false] rfl rfl (any_of HT_.out (by kernel_rfl)) (fun _ _ _ h => h) (Or.inr ⟨by rfl,rfl⟩) ?_ ?_
     rotate_left
     ·simp only [Act.put,sAx13,sBx13,sCx13,i64_w,i32_w]
      rfl
     refine pure_ (i:=22) (N:=some 78) (v:=undef) (a':=?_) #[true,true,true,true,true,true,true,true,true,true,true,true,true,true,true,true,true,true,true,true,true,true,true,false,false,false,false,false,false] rfl rfl (any_of HT_.out (by kernel_rfl)) (fun _ _ _ h => h) (Or.inr ⟨by rfl,rfl⟩) ?_ ?_
     rotate_left
     ·simp only [Act.put,sAx13,sBx13,sCx13,i64_w,i32_w]
      rfl
     refine pure_ (i:=23) (N:=some 79) (v:=undef) (a':=?_) #[true,true,true,true,true,true,true,true,true,true,true,true,true,true,true,true,true,true,true,true,true,true,true,true,false,false,false,false,false] rfl rfl (any_of HT_.out (by kernel_rfl)) (fun _ _ _ h => h) (Or.inr ⟨by rfl,rfl⟩) ?_ ?_
     rotate_left
     ·simp only [Act.put,sAx13,sBx13,sCx13,i64_w,i32_w]
      rfl
     refine pure_ (i:=24) (N:=some 80) (v:=?_) (a':=?_) #[true,true,true,true,true,true,true,true,true,true,true,true,true,true,true,true,true,true,true,true,true,true,true,true,true,false,false,false,false] rfl rfl (any_of HT_.out (by kernel_rfl)) (fun _ _ _ h => h) (Or.inl ⟨by rfl,?_⟩) ?_ ?_
     rotate_left
     ·intro w'
      go_simp
      with_reducible rfl
     rotate_left
     ·simp only [Act.put,sAx13,sBx13,sCx13,i64_w,i32_w]
      rfl
     refine pure_ (i:=25) (N:=some 81) (v:=?_) (a':=?_) #[true,true,true,true,true,true,true,true,true,true,true,true,true,true,true,true,true,true,true,true,true,true,true,true,true,true,false,false,false] rfl rfl (any_of HT_.out (by kernel_rfl)) (fun _ _ _ h => h) (Or.inl ⟨by rfl,?_⟩) ?_ ?_
     rotate_left
     ·intro w'
      go_simp
      with_reducible rfl
     rotate_left
     ·simp only [Act.put,sAx13,sBx13,sCx13,i64_w,i32_w]
      rfl
     refine pure_ (i:=26) (N:=some 82) (v:=undef) (a':=?_) #[true,true,true,true,true,true,true,true,true,true,true,true,true,true,true,true,true,true,true,true,true,true,true,true,true,true,true,false,false] rfl rfl (any_of HT_.out (by kernel_rfl)) (fun _ _ _ h => h) (Or.inr ⟨by rfl,rfl⟩) ?_ ?_
     rotate_left
     ·simp only [Act.put,sAx13,sBx13,sCx13,i64_w,i32_w]
      rfl
     refine pure_ (i:=27) (N:=some 83) (v:=?_) (a':=?_) #[true,true,true,true,true,true,true,true,true,true,true,true,true,true,true,true,true,true,true,true,true,true,true,true,true,true,true,true,false] rfl rfl (any_of HT_.out (by kernel_rfl)) (fun _ _ _ h => h) (Or.inl ⟨by rfl,?_⟩) ?_ ?_
     rotate_left
     ·intro w'
      go_simp
      with_reducible rfl
     rotate_left
     ·simp only [Act.put,sAx13,sBx13,sCx13,i64_w,i32_w]
      rfl
     refine pure_ (i:=28) (N:=some 6) (v:=?_) (a':=?_) #[true,true,true,true,true,true,true,true,true,true,true,true,true,true,true,true,true,true,true,true,true,true,true,true,true,true,true,true,true] rfl rfl (any_of HT_.out (by kernel_rfl)) (fun _ _ _ h => h) (Or.inl ⟨by rfl,?_⟩) ?_ ?_
     rotate_left
     ·intro w'
      go_simp
      with_reducible rfl
     rotate_left
     ·simp only [Act.put,sAx13,sBx13,sCx13,i64_w,i32_w]
      rfl
     refine done_ (done_of HT_.out (by kernel_rfl)) ?_
     try go_wp2
     go_ret
     exact ⟨by first | rfl | (simp [errW_none,errW_some]<;>rfl) | (simp only [← hji4,← hji6];first | rfl | (simp [errW_none,errW_some]<;>rfl)) | (simp [*,errW_none,errW_some]<;>rfl),by repeat (first | (with_reducible first | exact HB.out | apply below_alloc | apply pw_below_drewN | apply below_drew1 | refine below_set ?_ GE173.out | refine below_set ?_ GE174.out) | exact HB.out)⟩
   ·rw [if_neg c13] at H
    have c13b0 : (t179 == 0) = false:=beq_eq_false_iff_ne.mpr c13
    have c13b1 : (t179 != 0) = true:=bne_iff_ne.mpr c13
    obtain rfl:=Option.some.inj H
    go_enter Try.func8,Try.ntmps8
    try go_wp2_with (first|((with_reducible refine gate_dst (N:=8) rfl ?_);(try (refine gate_guard (by rfl) ?_;dsimp only));refine box_event ?hg (N:=8) ?hd (cs:=#[.int .i64 0,.int .i64 0]) (t:=41) ?hr ?_;(case hd => rfl);(case hg => rfl);(case hr => first|(go_simp;done)|(go_simp;rfl));intro gb173 hg w141 hbox hb;have n0_:=aMx13 (below_step (by repeat (with_reducible first|exact HB.out|apply below_alloc|apply pw_below_drewN|apply below_drew1)) hb);have n1_:=aMx13 (hbox);have n2_:=aMx13 ((by rw [hg];exact (below_size (by repeat (with_reducible first|exact HB.out|apply below_alloc|apply pw_below_drewN|apply below_drew1))) : w.heap.size ≤ gb173));have n3_:=aMx13 ((by rw [hg];exact (below_size (by repeat (with_reducible first|exact HB.out|apply below_alloc|apply pw_below_drewN|apply below_drew1))) : w.heap.size ≤ gb173));clear HB;have HB:=n0_;have BK173:=n1_;have GW173:=n2_;have GE173:=n3_;clear n0_ n1_ n2_ n3_;clear hb hbox hg;have hcz142_0 : w141.cell? ⟨gb173,0,none⟩ = some (.int .i64 0):=(blk_cell BK173.out 0).trans rfl;have hcz142_1 : w141.cell? ⟨gb173,1,none⟩ = some (.int .i64 0):=(blk_cell BK173.out 1).trans rfl;have hfz142_0:=blk_frozen BK173.out 0;have hfz142_1:=blk_frozen BK173.out 1)|((with_reducible refine gate_dst (N:=9) rfl ?_);(try (refine gate_guard (by rfl) ?_;dsimp only));refine box_event ?hg (N:=9) ?hd (cs:=#[.int .i64 0,.int .i64 0]) (t:=41) ?hr ?_;(case hd => rfl);(case hg => rfl);(case hr => first|(go_simp;done)|(go_simp;rfl));intro gb174 hg w143 hbox hb;have n0_:=aMx13 (blk_below (g:=gb173) (o:=.cells #[.int .i64 (wrap64 (-(ji4))),.int .i64 (Int.tmod (wrap64 (a1)) (ji6))] 41 (0,0)) (by (with_reducible repeat (first|refine blk_drewN ?_ _|refine blk_drew ?_|refine blk_alloc ?_ _));refine blk_put (cs:=#[.int .i64 (wrap64 (-(ji4))),.int .i64 0]) ?_ 1 _ rfl;(with_reducible repeat (first|refine blk_drewN ?_ _|refine blk_drew ?_|refine blk_alloc ?_ _));refine blk_put (cs:=#[.int .i64 0,.int .i64 0]) ?_ 0 _ rfl;(with_reducible repeat (first|refine blk_drewN ?_ _|refine blk_drew ?_|refine blk_alloc ?_ _));exact BK173.out) hb);have n1_:=aMx13 (below_step (by repeat (first|(with_reducible first|exact HB.out|apply below_alloc|apply pw_below_drewN|apply below_drew1|refine below_set ?_ GE173.out)|exact HB.out)) hb);have n2_:=aMx13 (hbox);have n3_:=aMx13 ((by rw [hg];exact (below_size (by repeat (first|(with_reducible first|exact HB.out|apply below_alloc|apply pw_below_drewN|apply below_drew1|refine below_set ?_ GE173.out)|exact HB.out))) : w.heap.size ≤ gb174));have n4_:=aMx13 ((by rw [hg];exact (below_size (by repeat (first|(with_reducible first|exact HB.out|apply below_alloc|apply pw_below_drewN|apply below_drew1|refine below_set ?_ GE173.out)|exact HB.out))) : w.heap.size ≤ gb174));have n5_:=aMx13 ((by rw [hg];exact Nat.ne_of_lt (blk_lt (g:=gb173) (o:=.cells #[.int .i64 (wrap64 (-(ji4))),.int .i64 (Int.tmod (wrap64 (a1)) (ji6))] 41 (0,0)) (by (with_reducible repeat (first|refine blk_drewN ?_ _|refine blk_drew ?_|refine blk_alloc ?_ _));refine blk_put (cs:=#[.int .i64 (wrap64 (-(ji4))),.int .i64 0]) ?_ 1 _ rfl;(with_reducible repeat (first|refine blk_drewN ?_ _|refine blk_drew ?_|refine blk_alloc ?_ _));refine blk_put (cs:=#[.int .i64 0,.int .i64 0]) ?_ 0 _ rfl;(with_reducible repeat (first|refine blk_drewN ?_ _|refine blk_drew ?_|refine blk_alloc ?_ _));exact BK173.out)) : gb173 ≠ gb174));have n6_:=aMx13 ((by rw [hg];exact Nat.ne_of_gt (blk_lt (g:=gb173) (o:=.cells #[.int .i64 (wrap64 (-(ji4))),.int .i64 (Int.tmod (wrap64 (a1)) (ji6))] 41 (0,0)) (by (with_reducible repeat (first|refine blk_drewN ?_ _|refine blk_drew ?_|refine blk_alloc ?_ _));refine blk_put (cs:=#[.int .i64 (wrap64 (-(ji4))),.int .i64 0]) ?_ 1 _ rfl;(with_reducible repeat (first|refine blk_drewN ?_ _|refine blk_drew ?_|refine blk_alloc ?_ _));refine blk_put (cs:=#[.int .i64 0,.int .i64 0]) ?_ 0 _ rfl;(with_reducible repeat (first|refine blk_drewN ?_ _|refine blk_drew ?_|refine blk_alloc ?_ _));exact BK173.out)) : gb174 ≠ gb173));clear BK173;clear HB;have BK173:=n0_;have HB:=n1_;have BK174:=n2_;have GW174:=n3_;have GE174:=n4_;have NB173_174:=n5_;have NB174_173:=n6_;clear n0_ n1_ n2_ n3_ n4_ n5_ n6_;clear hb hbox hg;have hnb144:=NB174_173.out;have hnc144:=NB173_174.out;have hcz145_0 : w143.cell? ⟨gb174,0,none⟩ = some (.int .i64 0):=(blk_cell BK174.out 0).trans rfl;have hcz145_1 : w143.cell? ⟨gb174,1,none⟩ = some (.int .i64 0):=(blk_cell BK174.out 1).trans rfl;have hfz145_0:=blk_frozen BK174.out 0;have hfz145_1:=blk_frozen BK174.out 1;have hcz146_0 : w143.cell? ⟨gb173,0,none⟩ = some (.int .i64 (wrap64 (-(ji4)))):=(blk_cell BK173.out 0).trans rfl;have hcz146_1 : w143.cell? ⟨gb173,1,none⟩ = some (.int .i64 (Int.tmod (wrap64 (a1)) (ji6))):=(blk_cell BK173.out 1).trans rfl;have hfz146_0:=blk_frozen BK173.out 0;have hfz146_1:=blk_frozen BK173.out 1)|((with_reducible refine gate_dst (N:=38) rfl ?_);(try (refine gate_guard (by rfl) ?_;dsimp only));refine Kd.R_lit k41 _ 41 ?hg (N:=38) ?hd (xs:=([(⟨wrap64 (-(ji4)),Int.tmod (wrap64 (a1)) (ji6)⟩ : S41)] : List (S41))) (inner:=[.int .i64 (wrap64 (-(ji4))),.int .i64 (Int.tmod (wrap64 (a1)) (ji6))]) (ok:=fun _ => True) (okp:=fun _ => True) ?hr ?hp (fun _ hk => hk) trivial (Below.refl _ _) (Nat.le_refl _) (by simp) ?_;(case hd => rfl);(case hg => rfl);(case hr => first|(go_simp;done)|(go_simp;rfl));(case hp => exact (Reps.c2 (show Kd.M k41 _ _ _ (⟨wrap64 (-(ji4)),Int.tmod (wrap64 (a1)) (ji6)⟩ : S41) [.int .i64 (wrap64 (-(ji4))),.int .i64 (Int.tmod (wrap64 (a1)) (ji6))] from (k41_mkM _ _ _ (⟨wrap64 (-(ji4)),Int.tmod (wrap64 (a1)) (ji6)⟩ : S41) )) (Reps.none _ _)));intro v176 w147 ho148 hb hg_ hnew_;clear hg_ hnew_;(first|rw [← Ny175.out] at ho148|(simp only [Int.reduceToNat] at ho148;rw [← Ny175.out] at ho148));have n0_:=aMx13 (Kd.R_lower (Kd.R_newB (Kd.R_newB ho148 (g:=gb173) (o:=.cells #[.int .i64 (wrap64 (-(ji4))),.int .i64 (Int.tmod (wrap64 (a1)) (ji6))] 41 (0,0)) (by (with_reducible repeat (first|refine blk_drewN ?_ _|refine blk_drew ?_|refine blk_alloc ?_ _));refine blk_far ?_ NB173_174.out _;(with_reducible repeat (first|refine blk_drewN ?_ _|refine blk_drew ?_|refine blk_alloc ?_ _));refine blk_far ?_ NB173_174.out _;(with_reducible repeat (first|refine blk_drewN ?_ _|refine blk_drew ?_|refine blk_alloc ?_ _));exact BK173.out)) (g:=gb174) (o:=.cells #[.int .i64 (wrap64 (-(ji4))),.int .i64 (Int.tmod (wrap64 (a2)) (ji6))] 41 (0,0)) (by (with_reducible repeat (first|refine blk_drewN ?_ _|refine blk_drew ?_|refine blk_alloc ?_ _));refine blk_put (cs:=#[.int .i64 (wrap64 (-(ji4))),.int .i64 0]) ?_ 1 _ rfl;(with_reducible repeat (first|refine blk_drewN ?_ _|refine blk_drew ?_|refine blk_alloc ?_ _));refine blk_put (cs:=#[.int .i64 0,.int .i64 0]) ?_ 0 _ rfl;(with_reducible repeat (first|refine blk_drewN ?_ _|refine blk_drew ?_|refine blk_alloc ?_ _));exact BK174.out)) (below_size (by repeat (first|(with_reducible first|exact HB.out|apply below_alloc|apply pw_below_drewN|apply below_drew1|refine below_set ?_ GE173.out|refine below_set ?_ GE174.out)|exact HB.out))));have n1_:=aMx13 (blk_below (g:=gb173) (o:=.cells #[.int .i64 (wrap64 (-(ji4))),.int .i64 (Int.tmod (wrap64 (a1)) (ji6))] 41 (0,0)) (by (with_reducible repeat (first|refine blk_drewN ?_ _|refine blk_drew ?_|refine blk_alloc ?_ _));refine blk_far ?_ NB173_174.out _;(with_reducible repeat (first|refine blk_drewN ?_ _|refine blk_drew ?_|refine blk_alloc ?_ _));refine blk_far ?_ NB173_174.out _;(with_reducible repeat (first|refine blk_drewN ?_ _|refine blk_drew ?_|refine blk_alloc ?_ _));exact BK173.out) hb);have n2_:=aMx13 (blk_below (g:=gb174) (o:=.cells #[.int .i64 (wrap64 (-(ji4))),.int .i64 (Int.tmod (wrap64 (a2)) (ji6))] 41 (0,0)) (by (with_reducible repeat (first|refine blk_drewN ?_ _|refine blk_drew ?_|refine blk_alloc ?_ _));refine blk_put (cs:=#[.int .i64 (wrap64 (-(ji4))),.int .i64 0]) ?_ 1 _ rfl;(with_reducible repeat (first|refine blk_drewN ?_ _|refine blk_drew ?_|refine blk_alloc ?_ _));refine blk_put (cs:=#[.int .i64 0,.int .i64 0]) ?_ 0 _ rfl;(with_reducible repeat (first|refine blk_drewN ?_ _|refine blk_drew ?_|refine blk_alloc ?_ _));exact BK174.out) hb);have n3_:=aMx13 (below_step (by repeat (first|(with_reducible first|exact HB.out|apply below_alloc|apply pw_below_drewN|apply below_drew1|refine below_set ?_ GE173.out|refine below_set ?_ GE174.out)|exact HB.out)) hb);clear BK173;clear BK174;clear HB;have HO177:=n0_;have BK173:=n1_;have BK174:=n2_;have HB:=n3_;clear n0_ n1_ n2_ n3_;clear hb ho148;obtain ⟨Ao149,co149,eo149⟩:=Kd.R_slice HO177.out;subst eo149)|((with_reducible refine gate_callee (f:=12) rfl ?_);refine goesL_ (some 39) rfl rfl Try.func12 (by kernel_rfl) rfl #[.slice none 0 0,.slice Ao149 y175.length co149] rfl (by (try simp only [List.map_toArray,List.map_cons,List.map_nil]);first|done|rfl|(simp only [List.length_drop,List.length_take];rfl)) ?_;(refine (coder_Encode.calls _ _ ([] : List Int) _ _ y175 t178 t179 _ ?side1 ?side2 ?side3 ?side4 A10.out).mono ?_);(case side1 => exact Kd.C_nil _ _);(case side2 => exact Nat.le_refl _);(case side3 => repeat (first|exact (Kd.R_reads' HO177.out).2.2|(with_reducible first|refine Kd.C_alloc ?_ _|refine Kd.C_drewN ?_ _|refine Kd.C_drew ?_)));(case side4 => exact (Kd.R_reads' HO177.out).2.1);rintro e w150 ⟨v180,rfl,ho0,hb⟩;refine ⟨_,rfl,?_⟩;have n0_:=aMx13 (Kd.R_below (by (with_reducible repeat (first|apply Kd.R_alloc|apply Kd.R_drewN|apply Kd.R_drew));exact HO177.out) hb);have n1_:=aMx13 (Kd.R_lower ho0 (below_size (by repeat (first|(with_reducible first|exact HB.out|apply below_alloc|apply pw_below_drewN|apply below_drew1|refine below_set ?_ GE173.out|refine below_set ?_ GE174.out)|exact HB.out))));have n2_:=aMx13 (blk_below (g:=gb173) (o:=.cells #[.int .i64 (wrap64 (-(ji4))),.int .i64 (Int.tmod (wrap64 (a1)) (ji6))] 41 (0,0)) (by (with_reducible repeat (first|refine blk_drewN ?_ _|refine blk_drew ?_|refine blk_alloc ?_ _));exact BK173.out) hb);have n3_:=aMx13 (blk_below (g:=gb174) (o:=.cells #[.int .i64 (wrap64 (-(ji4))),.int .i64 (Int.tmod (wrap64 (a2)) (ji6))] 41 (0,0)) (by (with_reducible repeat (first|refine blk_drewN ?_ _|refine blk_drew ?_|refine blk_alloc ?_ _));exact BK174.out) hb);have n4_:=aMx13 (below_step (by repeat (first|(with_reducible first|exact HB.out|apply below_alloc|apply pw_below_drewN|apply below_drew1|refine below_set ?_ GE173.out|refine below_set ?_ GE174.out)|exact HB.out)) hb);clear HO177;clear BK173;clear BK174;clear HB;have HO177:=n0_;have HO181:=n1_;have BK173:=n2_;have BK174:=n3_;have HB:=n4_;clear n0_ n1_ n2_ n3_ n4_;(try clear hb);(try clear hb2);(try clear hk);(try clear hi);(try clear ho0);have hcz151_0 : w150.cell? ⟨gb174,0,none⟩ = some (.int .i64 (wrap64 (-(ji4)))):=(blk_cell BK174.out 0).trans rfl;have hcz151_1 : w150.cell? ⟨gb174,1,none⟩ = some (.int .i64 (Int.tmod (wrap64 (a2)) (ji6))):=(blk_cell BK174.out 1).trans rfl;have hfz151_0:=blk_frozen BK174.out 0;have hfz151_1:=blk_frozen BK174.out 1)|((with_reducible refine gate_dst (N:=44) rfl ?_);(try (refine gate_guard (by rfl) ?_;dsimp only));refine Kd.R_lit k41 _ 41 ?hg (N:=44) ?hd (xs:=([(⟨wrap64 (-(ji4)),Int.tmod (wrap64 (a2)) (ji6)⟩ : S41)] : List (S41))) (inner:=[.int .i64 (wrap64 (-(ji4))),.int .i64 (Int.tmod (wrap64 (a2)) (ji6))]) (ok:=fun _ => True) (okp:=fun _ => True) ?hr ?hp (fun _ hk => hk) trivial (Below.refl _ _) (Nat.le_refl _) (by simp) ?_;(case hd => rfl);(case hg => rfl);(case hr => first|(go_simp;done)|(go_simp;rfl));(case hp => exact (Reps.c2 (show Kd.M k41 _ _ _ (⟨wrap64 (-(ji4)),Int.tmod (wrap64 (a2)) (ji6)⟩ : S41) [.int .i64 (wrap64 (-(ji4))),.int .i64 (Int.tmod (wrap64 (a2)) (ji6))] from (k41_mkM _ _ _ (⟨wrap64 (-(ji4)),Int.tmod (wrap64 (a2)) (ji6)⟩ : S41) )) (Reps.none _ _)));intro v183 w152 ho153 hb hg_ hnew_;clear hg_ hnew_;(first|rw [← Ny182.out] at ho153|(simp only [Int.reduceToNat] at ho153;rw [← Ny182.out] at ho153));have n0_:=aMx13 (Kd.R_elder' (by (with_reducible repeat (first|apply Kd.R_alloc|apply Kd.R_drewN|apply Kd.R_drew));exact HO177.out) (Kd.R_base ho153) hb);have n1_:=aMx13 (Kd.R_below (by (with_reducible repeat (first|apply Kd.R_alloc|apply Kd.R_drewN|apply Kd.R_drew));exact HO181.out) hb);have n2_:=aMx13 (Kd.R_lower (Kd.R_newB (Kd.R_newB (Kd.R_new' ho153 (Kd.R_lt (by (with_reducible repeat (first|apply Kd.R_alloc|apply Kd.R_drewN|apply Kd.R_drew));exact HO177.out))) (g:=gb173) (o:=.cells #[.int .i64 (wrap64 (-(ji4))),.int .i64 (Int.tmod (wrap64 (a1)) (ji6))] 41 (0,0)) (by (with_reducible repeat (first|refine blk_drewN ?_ _|refine blk_drew ?_|refine blk_alloc ?_ _));exact BK173.out)) (g:=gb174) (o:=.cells #[.int .i64 (wrap64 (-(ji4))),.int .i64 (Int.tmod (wrap64 (a2)) (ji6))] 41 (0,0)) (by (with_reducible repeat (first|refine blk_drewN ?_ _|refine blk_drew ?_|refine blk_alloc ?_ _));exact BK174.out)) (below_size (by repeat (first|(with_reducible first|exact HB.out|apply below_alloc|apply pw_below_drewN|apply below_drew1|refine below_set ?_ GE173.out|refine below_set ?_ GE174.out)|exact HB.out))));have n3_:=aMx13 (blk_below (g:=gb173) (o:=.cells #[.int .i64 (wrap64 (-(ji4))),.int .i64 (Int.tmod (wrap64 (a1)) (ji6))] 41 (0,0)) (by (with_reducible repeat (first|refine blk_drewN ?_ _|refine blk_drew ?_|refine blk_alloc ?_ _));exact BK173.out) hb);have n4_:=aMx13 (blk_below (g:=gb174) (o:=.cells #[.int .i64 (wrap64 (-(ji4))),.int .i64 (Int.tmod (wrap64 (a2)) (ji6))] 41 (0,0)) (by (with_reducible repeat (first|refine blk_drewN ?_ _|refine blk_drew ?_|refine blk_alloc ?_ _));exact BK174.out) hb);have n5_:=aMx13 (below_step (by repeat (first|(with_reducible first|exact HB.out|apply below_alloc|apply pw_below_drewN|apply below_drew1|refine below_set ?_ GE173.out|refine below_set ?_ GE174.out)|exact HB.out)) hb);clear HO177;clear HO181;clear BK173;clear BK174;clear HB;have HO177:=n0_;have HO181:=n1_;have HO184:=n2_;have BK173:=n3_;have BK174:=n4_;have HB:=n5_;clear n0_ n1_ n2_ n3_ n4_ n5_;clear hb ho153;obtain ⟨Ao154,co154,eo154⟩:=Kd.R_slice HO184.out;subst eo154)|((with_reducible refine gate_callee (f:=12) rfl ?_);refine goesL_ (some 45) rfl rfl Try.func12 (by kernel_rfl) rfl #[.slice none 0 0,.slice Ao154 y182.length co154] rfl (by (try simp only [List.map_toArray,List.map_cons,List.map_nil]);first|done|rfl|(simp only [List.length_drop,List.length_take];rfl)) ?_;(refine (coder_Encode.calls _ _ ([] : List Int) _ _ y182 t185 t186 _ ?side1 ?side2 ?side3 ?side4 A11.out).mono ?_);(case side1 => exact Kd.C_nil _ _);(case side2 => exact Nat.le_refl _);(case side3 => repeat (first|exact (Kd.R_reads' HO184.out).2.2|(with_reducible first|refine Kd.C_alloc ?_ _|refine Kd.C_drewN ?_ _|refine Kd.C_drew ?_)));(case side4 => exact (Kd.R_reads' HO184.out).2.1);rintro e w155 ⟨v187,rfl,ho0,hb⟩;refine ⟨_,rfl,?_⟩;have n0_:=aMx13 (Kd.R_below (by (with_reducible repeat (first|apply Kd.R_alloc|apply Kd.R_drewN|apply Kd.R_drew));exact HO177.out) hb);have n1_:=aMx13 (Kd.R_elder' (by (with_reducible repeat (first|apply Kd.R_alloc|apply Kd.R_drewN|apply Kd.R_drew));exact HO181.out) (Kd.R_base ho0) hb);have n2_:=aMx13 (Kd.R_below (by (with_reducible repeat (first|apply Kd.R_alloc|apply Kd.R_drewN|apply Kd.R_drew));exact HO184.out) hb);have n3_:=aMx13 (Kd.R_lower (Kd.R_new' ho0 (Kd.R_lt (by (with_reducible repeat (first|apply Kd.R_alloc|apply Kd.R_drewN|apply Kd.R_drew));exact HO181.out))) (below_size (by repeat (first|(with_reducible first|exact HB.out|apply below_alloc|apply pw_below_drewN|apply below_drew1|refine below_set ?_ GE173.out|refine below_set ?_ GE174.out)|exact HB.out))));have n4_:=aMx13 (blk_below (g:=gb173) (o:=.cells #[.int .i64 (wrap64 (-(ji4))),.int .i64 (Int.tmod (wrap64 (a1)) (ji6))] 41 (0,0)) (by (with_reducible repeat (first|refine blk_drewN ?_ _|refine blk_drew ?_|refine blk_alloc ?_ _));exact BK173.out) hb);have n5_:=aMx13 (blk_below (g:=gb174) (o:=.cells #[.int .i64 (wrap64 (-(ji4))),.int .i64 (Int.tmod (wrap64 (a2)) (ji6))] 41 (0,0)) (by (with_reducible repeat (first|refine blk_drewN ?_ _|refine blk_drew ?_|refine blk_alloc ?_ _));exact BK174.out) hb);have n6_:=aMx13 (below_step (by repeat (first|(with_reducible first|exact HB.out|apply below_alloc|apply pw_below_drewN|apply below_drew1|refine below_set ?_ GE173.out|refine below_set ?_ GE174.out)|exact HB.out)) hb);clear HO177;clear HO181;clear HO184;clear BK173;clear BK174;clear HB;have HO177:=n0_;have HO181:=n1_;have HO184:=n2_;have HO188:=n3_;have BK173:=n4_;have BK174:=n5_;have HB:=n6_;clear n0_ n1_ n2_ n3_ n4_ n5_ n6_;(try clear hb);(try clear hb2);(try clear hk);(try clear hi);(try clear ho0))|((with_reducible refine gate_dst (N:=51) rfl ?_);(try (refine gate_guard (by rfl) ?_;dsimp only));refine Kd.R_lit (Kd.int .i64) _ 3 ?hg (N:=51) ?hd (xs:=([wrap64 (-(ji4))] : List Int)) (inner:=[.int .i64 (wrap64 (-(ji4)))]) (ok:=fun _ => True) (okp:=fun _ => True) ?hr ?hp (fun _ hk => hk) trivial (Below.refl _ _) (Nat.le_refl _) (by simp) ?_;(case hd => rfl);(case hg => rfl);(case hr => first|(go_simp;done)|(go_simp;rfl));(case hp => exact (Reps.one (show Kd.M (Kd.int .i64) _ _ _ (wrap64 (-(ji4))) [.int .i64 (wrap64 (-(ji4)))] from rfl) (Reps.none _ _)));intro v190 w156 ho157 hb hg_ hnew_;clear hg_ hnew_;(first|rw [← Ny189.out] at ho157|(simp only [Int.reduceToNat] at ho157;rw [← Ny189.out] at ho157));have n0_:=aMx13 (Kd.R_below (by (with_reducible repeat (first|apply Kd.R_alloc|apply Kd.R_drewN|apply Kd.R_drew));exact HO177.out) hb);have n1_:=aMx13 (Kd.R_below (by (with_reducible repeat (first|apply Kd.R_alloc|apply Kd.R_drewN|apply Kd.R_drew));exact HO181.out) hb);have n2_:=aMx13 (Kd.R_below (by (with_reducible repeat (first|apply Kd.R_alloc|apply Kd.R_drewN|apply Kd.R_drew));exact HO184.out) hb);have n3_:=aMx13 (Kd.R_below (by (with_reducible repeat (first|apply Kd.R_alloc|apply Kd.R_drewN|apply Kd.R_drew));exact HO188.out) hb);have n4_:=aMx13 (Kd.R_lower ho157 (below_size (by repeat (first|(with_reducible first|exact HB.out|apply below_alloc|apply pw_below_drewN|apply below_drew1|refine below_set ?_ GE173.out|refine below_set ?_ GE174.out)|exact HB.out))));have n5_:=aMx13 (blk_below (g:=gb173) (o:=.cells #[.int .i64 (wrap64 (-(ji4))),.int .i64 (Int.tmod (wrap64 (a1)) (ji6))] 41 (0,0)) (by (with_reducible repeat (first|refine blk_drewN ?_ _|refine blk_drew ?_|refine blk_alloc ?_ _));exact BK173.out) hb);have n6_:=aMx13 (blk_below (g:=gb174) (o:=.cells #[.int .i64 (wrap64 (-(ji4))),.int .i64 (Int.tmod (wrap64 (a2)) (ji6))] 41 (0,0)) (by (with_reducible repeat (first|refine blk_drewN ?_ _|refine blk_drew ?_|refine blk_alloc ?_ _));exact BK174.out) hb);have n7_:=aMx13 (below_step (by repeat (first|(with_reducible first|exact HB.out|apply below_alloc|apply pw_below_drewN|apply below_drew1|refine below_set ?_ GE173.out|refine below_set ?_ GE174.out)|exact HB.out)) hb);clear HO177;clear HO181;clear HO184;clear HO188;clear BK173;clear BK174;clear HB;have HO177:=n0_;have HO181:=n1_;have HO184:=n2_;have HO188:=n3_;have HO191:=n4_;have BK173:=n5_;have BK174:=n6_;have HB:=n7_;clear n0_ n1_ n2_ n3_ n4_ n5_ n6_ n7_;clear hb ho157;obtain ⟨Ao158,co158,eo158⟩:=Kd.R_slice HO191.out;subst eo158;obtain ⟨Ao159,co159,eo159⟩:=Kd.R_slice HO181.out;subst eo159)|((with_reducible refine gate_callee (f:=15) rfl ?_);refine goesL_ (some 53) rfl rfl Try.func15 (by kernel_rfl) rfl #[.slice none 0 0,.slice Ao158 y189.length co158,.slice Ao159 t178.length co159] rfl (by (try simp only [List.map_toArray,List.map_cons,List.map_nil]);first|done|rfl|(simp only [List.length_drop,List.length_take];rfl)) ?_;(refine (coder_Decode.calls _ _ ([] : List Int) _ _ y189 _ _ t178 t192 t193 _ ?side1 ?side2 ?side3 ?side4 ?side5 ?side6 A12.out).mono ?_);(case side1 => exact Kd.C_nil _ _);(case side2 => exact Nat.le_refl _);(case side3 => repeat (first|exact (Kd.R_reads' HO191.out).2.2|(with_reducible first|refine Kd.C_alloc ?_ _|refine Kd.C_drewN ?_ _|refine Kd.C_drew ?_)));(case side4 => exact (Kd.R_reads' HO191.out).2.1);(case side5 => repeat (first|exact (Kd.R_reads' HO181.out).2.2|(with_reducible first|refine Kd.C_alloc ?_ _|refine Kd.C_drewN ?_ _|refine Kd.C_drew ?_)));(case side6 => exact (Kd.R_reads' HO181.out).2.1);rintro e w160 ⟨v194,rfl,ho0,hb⟩;refine ⟨_,rfl,?_⟩;have n0_:=aMx13 (Kd.R_elder' (by (with_reducible repeat (first|apply Kd.R_alloc|apply Kd.R_drewN|apply Kd.R_drew));exact HO177.out) (Kd.R_base ho0) hb);have n1_:=aMx13 (Kd.R_below (by (with_reducible repeat (first|apply Kd.R_alloc|apply Kd.R_drewN|apply Kd.R_drew));exact HO181.out) hb);have n2_:=aMx13 (Kd.R_elder' (by (with_reducible repeat (first|apply Kd.R_alloc|apply Kd.R_drewN|apply Kd.R_drew));exact HO184.out) (Kd.R_base ho0) hb);have n3_:=aMx13 (Kd.R_below (by (with_reducible repeat (first|apply Kd.R_alloc|apply Kd.R_drewN|apply Kd.R_drew));exact HO188.out) hb);have n4_:=aMx13 (Kd.R_below (by (with_reducible repeat (first|apply Kd.R_alloc|apply Kd.R_drewN|apply Kd.R_drew));exact HO191.out) hb);have n5_:=aMx13 (Kd.R_lower (Kd.R_newB (Kd.R_newB (Kd.R_new' (Kd.R_new' ho0 (Kd.R_lt (by (with_reducible repeat (first|apply Kd.R_alloc|apply Kd.R_drewN|apply Kd.R_drew));exact HO177.out))) (Kd.R_lt (by (with_reducible repeat (first|apply Kd.R_alloc|apply Kd.R_drewN|apply Kd.R_drew));exact HO184.out))) (g:=gb173) (o:=.cells #[.int .i64 (wrap64 (-(ji4))),.int .i64 (Int.tmod (wrap64 (a1)) (ji6))] 41 (0,0)) (by (with_reducible repeat (first|refine blk_drewN ?_ _|refine blk_drew ?_|refine blk_alloc ?_ _));exact BK173.out)) (g:=gb174) (o:=.cells #[.int .i64 (wrap64 (-(ji4))),.int .i64 (Int.tmod (wrap64 (a2)) (ji6))] 41 (0,0)) (by (with_reducible repeat (first|refine blk_drewN ?_ _|refine blk_drew ?_|refine blk_alloc ?_ _));exact BK174.out)) (below_size (by repeat (first|(with_reducible first|exact HB.out|apply below_alloc|apply pw_below_drewN|apply below_drew1|refine below_set ?_ GE173.out|refine below_set ?_ GE174.out)|exact HB.out))));have n6_:=aMx13 (blk_below (g:=gb173) (o:=.cells #[.int .i64 (wrap64 (-(ji4))),.int .i64 (Int.tmod (wrap64 (a1)) (ji6))] 41 (0,0)) (by (with_reducible repeat (first|refine blk_drewN ?_ _|refine blk_drew ?_|refine blk_alloc ?_ _));exact BK173.out) hb);have n7_:=aMx13 (blk_below (g:=gb174) (o:=.cells #[.int .i64 (wrap64 (-(ji4))),.int .i64 (Int.tmod (wrap64 (a2)) (ji6))] 41 (0,0)) (by (with_reducible repeat (first|refine blk_drewN ?_ _|refine blk_drew ?_|refine blk_alloc ?_ _));exact BK174.out) hb);have n8_:=aMx13 (below_step (by repeat (first|(with_reducible first|exact HB.out|apply below_alloc|apply pw_below_drewN|apply below_drew1|refine below_set ?_ GE173.out|refine below_set ?_ GE174.out)|exact HB.out)) hb);clear HO177;clear HO181;clear HO184;clear HO188;clear HO191;clear BK173;clear BK174;clear HB;have HO177:=n0_;have HO181:=n1_;have HO184:=n2_;have HO188:=n3_;have HO191:=n4_;have HO195:=n5_;have BK173:=n6_;have BK174:=n7_;have HB:=n8_;clear n0_ n1_ n2_ n3_ n4_ n5_ n6_ n7_ n8_;(try clear hb);(try clear hb2);(try clear hk);(try clear hi);(try clear ho0)))
    have n0_:=aMx13 (Kd.R_drew HO177.out)
    have n1_:=aMx13 (Kd.R_drew HO181.out)
    have n2_:=aMx13 (Kd.R_drew HO184.out)
    have n3_:=aMx13 (Kd.R_drew HO188.out)
    have n4_:=aMx13 (Kd.R_drew HO191.out)
    have n5_:=aMx13 (Kd.R_drew HO195.out)
    have n6_:=aMx13 (blk_drew BK173.out)
    have n7_:=aMx13 (blk_drew BK174.out)
    have n8_:=aMx13 (below_drew1 HB.out)
    clear HO177
    clear HO181
    clear HO184
    clear HO188
    clear HO191
    clear HO195
    clear BK173
    clear BK174
    clear HB
    have HO177:=n0_
    have HO181:=n1_
    have HO184:=n2_
    have HO188:=n3_
    have HO191:=n4_
    have HO195:=n5_
    have BK173:=n6_
    have BK174:=n7_
    have HB:=n8_
    clear n0_ n1_ n2_ n3_ n4_ n5_ n6_ n7_ n8_
    refine start_ (n:=29) (S:=fun w' => True) (ds:=[]) #[false,false,false,false,false,false,false,false,false,false,false,false,false,false,false,false,false,false,false,false,false,false,false,false,false,false,false,false,false] (by kernel_rfl) rfl rfl trivial (fun hHeld => ?_);refine with_tabW lapidarylaw06_CoderPlain.tab7 lapidarylaw06_CoderPlain.bits7 (fun HT_ HW_ => ?_)
    generalize w160.drew = w161 at HO177 HO181 HO184 HO188 HO191 HO195 BK173 BK174 HB hHeld ⊢
    refine pure_ (i:=0) (N:=some 56) (v:=?_) (a':=?_) #[true,false,false,false,false,false,false,false,false,false,false,false,false,false,false,false,false,false,false,false,false,false,false,false,false,false,false,false,false] rfl rfl (any_of HT_.out (by kernel_rfl)) (fun _ _ _ h => h) (Or.inl ⟨by rfl,?_⟩) ?_ ?_
    rotate_left
    ·intro w'
     go_simp
     with_reducible rfl
    rotate_left
    ·simp only [Act.put,sAx13,sBx13,sCx13,i64_w,i32_w]
     rfl
    refine pure_ (i:=1) (N:=some 57) (v:=?_) (a':=?_) #[true,true,false,false,false,false,false,false,false,false,false,false,false,false,false,false,false,false,false,false,false,false,false,false,false,false,false,false,false] rfl rfl (any_of HT_.out (by kernel_rfl)) (fun _ _ _ h => h) (Or.inl ⟨by rfl,?_⟩) ?_ ?_
    rotate_left
    ·intro w'
     go_simp
     with_reducible rfl
    rotate_left
    ·simp only [Act.put,sAx13,sBx13,sCx13,i64_w,i32_w]
     rfl
    refine pure_ (i:=2) (N:=some 58) (v:=?_) (a':=?_) #[true,true,true,false,false,false,false,false,false,false,false,false,false,false,false,false,false,false,false,false,false,false,false,false,false,false,false,false,false] rfl rfl (any_of HT_.out (by kernel_rfl)) (fun _ _ _ h => h) (Or.inl ⟨by rfl,?_⟩) ?_ ?_
    rotate_left
    ·intro w'
     go_simp
     with_reducible rfl
    rotate_left
    ·simp only [Act.put,sAx13,sBx13,sCx13,i64_w,i32_w]
     rfl
    refine pure_ (i:=3) (N:=some 59) (v:=undef) (a':=?_) #[true,true,true,true,false,false,false,false,false,false,false,false,false,false,false,false,false,false,false,false,false,false,false,false,false,false,false,false,false] rfl rfl (any_of HT_.out (by kernel_rfl)) (fun _ _ _ h => h) (Or.inr ⟨by rfl,rfl⟩) ?_ ?_
    rotate_left
    ·simp only [Act.put,sAx13,sBx13,sCx13,i64_w,i32_w]
     rfl
    refine pure_ (i:=4) (N:=some 60) (v:=undef) (a':=?_) #[true,true,true,true,true,false,false,false,false,false,false,false,false,false,false,false,false,false,false,false,false,false,false,false,false,false,false,false,false] rfl rfl (any_of HT_.out (by kernel_rfl)) (fun _ _ _ h => h) (Or.inr ⟨by rfl,rfl⟩) ?_ ?_
    rotate_left
    ·simp only [Act.put,sAx13,sBx13,sCx13,i64_w,i32_w]
     rfl
    refine pure_ (i:=5) (N:=some 61) (v:=?_) (a':=?_) #[true,true,true,true,true,true,false,false,false,false,false,false,false,false,false,false,false,false,false,false,false,false,false,false,false,false,false,false,false] rfl rfl (any_of HT_.out (by kernel_rfl)) (fun _ _ _ h => h) (Or.inl ⟨by rfl,?_⟩) ?_ ?_
    rotate_left
    ·intro w'
     go_simp
     with_reducible rfl
    rotate_left
    ·simp only [Act.put,sAx13,sBx13,sCx13,i64_w,i32_w]
     rfl
    refine pure_ (i:=6) (N:=some 62) (v:=?_) (a':=?_) #[true,true,true,true,true,true,true,false,false,false,false,false,false,false,false,false,false,false,false,false,false,false,false,false,false,false,false,false,false] rfl rfl (any_of HT_.out (by kernel_rfl)) (fun _ _ _ h => h) (Or.inl ⟨by rfl,?_⟩) ?_ ?_
    rotate_left
    ·intro w'
     go_simp
     with_reducible rfl
    rotate_left
    ·simp only [Act.put,sAx13,sBx13,sCx13,i64_w,i32_w]
     rfl
    refine pure_ (i:=7) (N:=some 63) (v:=undef) (a':=?_) #[true,true,true,true,true,true,true,true,false,false,false,false,false,false,false,false,false,false,false,false,false,false,false,false,false,false,false,false,false] rfl rfl (any_of HT_.out (by kernel_rfl)) (fun _ _ _ h => h) (Or.inr ⟨by rfl,rfl⟩) ?_ ?_
    rotate_left
    ·simp only [Act.put,sAx13,sBx13,sCx13,i64_w,i32_w]
     rfl
    refine pure_ (i:=8) (N:=some 64) (v:=undef) (a':=?_) #[true,true,true,true,true,true,true,true,true,false,false,false,false,false,false,false,false,false,false,false,false,false,false,false,false,false,false,false,false] rfl rfl (any_of HT_.out (by kernel_rfl)) (fun _ _ _ h => h) (Or.inr ⟨by rfl,rfl⟩) ?_ ?_
    rotate_left
    ·simp only [Act.put,sAx13,sBx13,sCx13,i64_w,i32_w]
     rfl
    refine pure_ (i:=9) (N:=some 65) (v:=?_) (a':=?_) #[true,true,true,true,true,true,true,true,true,true,false,false,false,false,false,false,false,false,false,false,false,false,false,false,false,false,false,false,false] rfl rfl (any_of HT_.out (by kernel_rfl)) (fun _ _ _ h => h) (Or.inl ⟨by rfl,?_⟩) ?_ ?_
    rotate_left
    ·intro w'
     go_simp
     with_reducible rfl
    rotate_left
    ·simp only [Act.put,sAx13,sBx13,sCx13,i64_w,i32_w]
     rfl
    refine pure_ (i:=10) (N:=some 66) (v:=?_) (a':=?_) #[true,true,true,true,true,true,true,true,true,true,true,false,false,false,false,false,false,false,false,false,false,false,false,false,false,false,false,false,false] rfl rfl (any_of HT_.out (by kernel_rfl)) (fun _ _ _ h => h) (Or.inl ⟨by rfl,?_⟩) ?_ ?_
    rotate_left
    ·intro w'
     go_simp
     with_reducible rfl
    rotate_left
    ·simp only [Act.put,sAx13,sBx13,sCx13,i64_w,i32_w]
     rfl
    refine pure_ (i:=11) (N:=some 67) (v:=undef) (a':=?_) #[true,true,true,true,true,true,true,true,true,true,true,true,false,false,false,false,false,false,false,false,false,false,false,false,false,false,false,false,false] rfl rfl (any_of HT_.out (by kernel_rfl)) (fun _ _ _ h => h) (Or.inr ⟨by rfl,rfl⟩) ?_ ?_
    rotate_left
    ·simp only [Act.put,sAx13,sBx13,sCx13,i64_w,i32_w]
     rfl
    refine pure_ (i:=12) (N:=some 68) (v:=undef) (a':=?_) #[true,true,true,true,true,true,true,true,true,true,true,true,true,false,false,false,false,false,false,false,false,false,false,false,false,false,false,false,false] rfl rfl (any_of HT_.out (by kernel_rfl)) (fun _ _ _ h => h) (Or.inr ⟨by rfl,rfl⟩) ?_ ?_
    rotate_left
    ·simp only [Act.put,sAx13,sBx13,sCx13,i64_w,i32_w]
     rfl
    refine pure_ (i:=13) (N:=some 69) (v:=undef) (a':=?_) #[true,true,true,true,true,true,true,true,true,true,true,true,true,true,false,false,false,false,false,false,false,false,false,false,false,false,false,false,false] rfl rfl (any_of HT_.out (by kernel_rfl)) (fun _ _ _ h => h) (Or.inr ⟨by rfl,rfl⟩) ?_ ?_
    rotate_left
    ·simp only [Act.put,sAx13,sBx13,sCx13,i64_w,i32_w]
     rfl
    refine pure_ (i:=14) (N:=some 70) (v:=undef) (a':=?_) #[true,true,true,true,true,true,true,true,true,true,true,true,true,true,true,false,false,false,false,false,false,false,false,false,false,false,false,false,false] rfl rfl (any_of HT_.out (by kernel_rfl)) (fun _ _ _ h => h) (Or.inr ⟨by rfl,rfl⟩) ?_ ?_
    rotate_left
    ·simp only [Act.put,sAx13,sBx13,sCx13,i64_w,i32_w]
     rfl
    refine pure_ (i:=15) (N:=some 71) (v:=?_) (a':=?_) #[true,true,true,true,true,true,true,true,true,true,true,true,true,true,true,true,false,false,false,false,false,false,false,false,false,false,false,false,false] rfl rfl (any_of HT_.out (by kernel_rfl)) (fun _ _ _ h => h) (Or.inl ⟨by rfl,?_⟩) ?_ ?_
    rotate_left
    ·intro w'
     go_simp
     with_reducible rfl
    rotate_left
    ·simp only [Act.put,sAx13,sBx13,sCx13,i64_w,i32_w]
     rfl
    refine pure_ (i:=16) (N:=some 72) (v:=?_) (a':=?_) #[true,true,true,true,true,true,true,true,true,true,true,true,true,true,true,true,true,false,false,false,false,false,false,false,false,false,false,false,false] rfl rfl (any_of HT_.out (by kernel_rfl)) (fun _ _ _ h => h) (Or.inl ⟨by rfl,?_⟩) ?_ ?_
    rotate_left
    ·intro w'
     go_simp
     with_reducible rfl
    rotate_left
    ·simp only [Act.put,sAx13,sBx13,sCx13,i64_w,i32_w]
     rfl
    refine pure_ (i:=17) (N:=some 73) (v:=undef) (a':=?_) #[true,true,true,true,true,true,true,true,true,true,true,true,true,true,true,true,true,true,false,false,false,false,false,false,false,false,false,false,false] rfl rfl (any_of HT_.out (by kernel_rfl)) (fun _ _ _ h => h) (Or.inr ⟨by rfl,rfl⟩) ?_ ?_
    rotate_left
    ·simp only [Act.put,sAx13,sBx13,sCx13,i64_w,i32_w]
     rfl
    refine pure_ (i:=18) (N:=some 74) (v:=undef) (a':=?_) #[true,true,true,true,true,true,true,true,true,true,true,true,true,true,true,true,true,true,true,false,false,false,false,false,false,false,false,false,false] rfl rfl (any_of HT_.out (by kernel_rfl)) (fun _ _ _ h => h) (Or.inr ⟨by rfl,rfl⟩) ?_ ?_
    rotate_left
    ·simp only [Act.put,sAx13,sBx13,sCx13,i64_w,i32_w]
     rfl
    refine pure_ (i:=19) (N:=some 75) (v:=undef) (a':=?_) #[true,true,true,true,true,true,true,true,true,true,true,true,true,true,true,true,true,true,true,true,false,false,false,false,false,false,false,false,false] rfl rfl (any_of HT_.out (by kernel_rfl)) (fun _ _ _ h => h) (Or.inr ⟨by rfl,rfl⟩) ?_ ?_
    rotate_left
    ·simp only [Act.put,sAx13,sBx13,sCx13,i64_w,i32_w]
     rfl
    refine pure_ (i:=20) (N:=some 76) (v:=undef) (a':=?_) #[true,true,true,true,true,true,true,true,true,true,true,true,true,true,true,true,true,true,true,true,true,false,false,false,false,false,false,false,false] rfl rfl (any_of HT_.out (by kernel_rfl)) (fun _ _ _ h => h) (Or.inr ⟨by rfl,rfl⟩) ?_ ?_
    rotate_left
    ·simp only [Act.put,sAx13,sBx13,sCx13,i64_w,i32_w]
     rfl
    refine pure_ (i:=21) (N:=some 77) (v:=undef) (a':=?_) #[true,true,true,true,true,true,true,true,true,true,true,true,true,true,true,true,true,true,true,true,true,true,false,false,false,false,false,false,false] rfl rfl (any_of HT_.out (by kernel_rfl)) (fun _ _ _ h => h) (Or.inr ⟨by rfl,rfl⟩) ?_ ?_
    rotate_left
    ·simp only [Act.put,sAx13,sBx13,sCx13,i64_w,i32_w]
     rfl
    refine pure_ (i:=22) (N:=some 78) (v:=undef) (a':=?_) #[true,true,true,true,true,true,true,true,true,true,true,true,true,true,true,true,true,true,true,true,true,true,true,false,false,false,false,false,false] rfl rfl (any_of HT_.out (by kernel_rfl)) (fun _ _ _ h => h) (Or.inr ⟨by rfl,rfl⟩) ?_ ?_
    rotate_left
    ·simp only [Act.put,sAx13,sBx13,sCx13,i64_w,i32_w]
     rfl
    refine pure_ (i:=23) (N:=some 79) (v:=undef) (a':=?_) #[true,true,true,true,true,true,true,true,true,true,true,true,true,true,true,true,true,true,true,true,true,true,true,true,false,false,false,false,false] rfl rfl (any_of HT_.out (by kernel_rfl)) (fun _ _ _ h => h) (Or.inr ⟨by rfl,rfl⟩) ?_ ?_
    rotate_left
    ·simp only [Act.put,sAx13,sBx13,sCx13,i64_w,i32_w]
     rfl
    refine pure_ (i:=24) (N:=some 80) (v:=?_) (a':=?_) #[true,true,true,true,true,true,true,true,true,true,true,true,true,true,true,true,true,true,true,true,true,true,true,true,true,false,false,false,false] rfl rfl (any_of HT_.out (by kernel_rfl)) (fun _ _ _ h => h) (Or.inl ⟨by rfl,?_⟩) ?_ ?_
    rotate_left
    ·intro w'
     go_simp
     with_reducible rfl
    rotate_left
    ·simp only [Act.put,sAx13,sBx13,sCx13,i64_w,i32_w]
     rfl
    refine pure_ (i:=25) (N:=some 81) (v:=?_) (a':=?_) #[true,true,true,true,true,true,true,true,true,true,true,true,true,true,true,true,true,true,true,true,true,true,true,true,true,true,false,false,false] rfl rfl (any_of HT_.out (by kernel_rfl)) (fun _ _ _ h => h) (Or.inl ⟨by rfl,?_⟩) ?_ ?_
    rotate_left
    ·intro w'
     go_simp
     with_reducible rfl
    rotate_left
    ·simp only [Act.put,sAx13,sBx13,sCx13,i64_w,i32_w]
     rfl
    refine pure_ (i:=26) (N:=some 82) (v:=undef) (a':=?_) #[true,true,true,true,true,true,true,true,true,true,true,true,true,true,true,true,true,true,true,true,true,true,true,true,true,true,true,false,false] rfl rfl (any_of HT_.out (by kernel_rfl)) (fun _ _ _ h => h) (Or.inr ⟨by rfl,rfl⟩) ?_ ?_
    rotate_left
    ·simp only [Act.put,sAx13,sBx13,sCx13,i64_w,i32_w]
     rfl
    refine pure_ (i:=27) (N:=some 83) (v:=?_) (a':=?_) #[true,true,true,true,true,true,true,true,true,true,true,true,true,true,true,true,true,true,true,true,true,true,true,true,true,true,true,true,false] rfl rfl (any_of HT_.out (by kernel_rfl)) (fun _ _ _ h => h) (Or.inl ⟨by rfl,?_⟩) ?_ ?_
    rotate_left
    ·intro w'
     go_simp
     with_reducible rfl
    rotate_left
    ·simp only [Act.put,sAx13,sBx13,sCx13,i64_w,i32_w]
     rfl
    refine pure_ (i:=28) (N:=some 6) (v:=?_) (a':=?_) #[true,true,true,true,true,true,true,true,true,true,true,true,true,true,true,true,true,true,true,true,true,true,true,true,true,true,true,true,true] rfl rfl (any_of HT_.out (by kernel_rfl)) (fun _ _ _ h => h) (Or.inl ⟨by rfl,?_⟩) ?_ ?_
    rotate_left
    ·intro w'
     go_simp
     with_reducible rfl
    rotate_left
    ·simp only [Act.put,sAx13,sBx13,sCx13,i64_w,i32_w]
     rfl
    refine done_ (done_of HT_.out (by kernel_rfl)) ?_
    try go_wp2
    go_ret
    exact ⟨by first | rfl | (simp [errW_none,errW_some]<;>rfl) | (simp only [← hji4,← hji6];first | rfl | (simp [errW_none,errW_some]<;>rfl)) | (simp [*,errW_none,errW_some]<;>rfl),by repeat (first | (with_reducible first | exact HB.out | apply below_alloc | apply pw_below_drewN | apply below_drew1 | refine below_set ?_ GE173.out | refine below_set ?_ GE174.out) | exact HB.out)⟩
 ·rw [if_neg c5] at H
  exact absurd H (by simp)

/-- THE ONE PURE STATEMENT of lapidarylaw06_CoderPlain: yours. -/
def lapidarylaw06_CoderPlain.Pure : Prop := ∀ (a0 : Int) (a1 : Int) (a2 : Int), (Lit.int .u8 a0).wf = true → (Lit.int .u16 a1).wf = true → (Lit.int .u16 a2).wf = true → ∃ k, lapidarylaw06_CoderPlain.f k a0 a1 a2 = some true
theorem lapidarylaw06_CoderPlain.walk (P : lapidarylaw06_CoderPlain.Pure) (a0 : Int) (a1 : Int) (a2 : Int) (w : World) (w0 : (Lit.int .u8 a0).wf = true) (w1 : (Lit.int .u16 a1).wf = true) (w2 : (Lit.int .u16 a2).wf = true) :
    Calls Try.prog 8 #[.int .u8 a0, .int .u16 a1, .int .u16 a2] w fun e w' => e = .returned (.bool true) ∧ Below w.heap.size w w' := by
  obtain ⟨k, h⟩ := P a0 a1 a2 w0 w1 w2
  refine (lapidarylaw06_CoderPlain.calls k a0 a1 a2 true w h).mono ?_
  rintro e w' ⟨rfl, hd⟩
  exact ⟨rfl, hd⟩

end Go.Proofs.Ythegimfokcdehaa.PCod
