import Derived.Test.YtomknjmgcbbjlaaDoorWalkN
import Derived.OwnWalk
namespace Go.Proofs.YtomknjmgcbbjlaaDoor.PWlk
open Go Go.RowKit Go.Proofs.YtomknjmgcbbjlaaDoorW.PrintWords
noncomputable def chk (P : List S46) (T : List S47) : Int := (MR.check_ev P T).choose
theorem chk_ev (P : List S46) (T : List S47) : Ev (fun n => lapidaryref10_Check.f n P T) (chk P T) := (MR.check_ev P T).choose_spec.1
theorem chk_told (P : List S46) (T : List S47) : MR.Told P T (chk P T) := (MR.check_ev P T).choose_spec.2
noncomputable def wk (T : List S47) : WP.Wk := WP.fin (MC.look T) (MM.trs T) T.length
end Go.Proofs.YtomknjmgcbbjlaaDoor.PWlk
namespace Go.Proofs.YtomknjmgcbbjlaaDoor.WW
open Go Go.RowKit Go.Maps Go.WideMaps Go.Proofs.YtomknjmgcbbjlaaDoor.Mem Go.Proofs.YtomknjmgcbbjlaaDoor.PWlk Go.Proofs.YtomknjmgcbbjlaaDoorW.PrintWords Go.Proofs.YtomknjmgcbbjlaaDoorW.PrintLast Go.Proofs.YtomknjmgcbbjlaaDoorW.PrintMore
open Go.Proofs.YtomknjmgcbbjlaaDoor.MM (trs trT Gl)
set_option linter.unusedVariables false
set_option linter.unnecessarySimpa false
set_option linter.unusedSimpArgs false
set_option maxRecDepth 100000
section
variable (P : List S46) (T : List S47) (r : Int) (ht : MR.Told P T r) (A0 : Option Addr) (c0 : Nat) (A1 : Option Addr) (c1 : Nat) (w : World) (hr0 : Kd.C k46 w A0 P.length P) (hc0 : P.length ≤ c0) (hr1 : Kd.C k47 w A1 T.length T) (hc1 : T.length ≤ c1) (hG : Gl w)
include ht hr0 hc0 hr1 hc1 hG
theorem steps20 : Calls Tryd.prog 20 #[.agg #[.slice A0 P.length c0, .slice A1 T.length c1]] w fun en w' => ∃ v : Value, en = .returned (.tuple #[v, .int .i64 r]) ∧ Kd.R k62 62 w' w.heap.size (fun _ => True) v (if r = 0 then (wk T).S.map to62 else []) ∧ Below w.heap.size w w' := by
  have hb := (Below.refl w.heap.size w).alloc (Nat.le_refl _) (.cells #[.slice A0 P.length c0, .slice A1 T.length c1] 25 (0, 0))
  have hm := Blk.here w 25 #[.slice A0 P.length c0, .slice A1 T.length c1]
  have hck := Lib.hid (walked57 P T r ht A0 c0 A1 c1 (w.alloc (.cells #[.slice A0 P.length c0, .slice A1 T.length c1] 25 (0, 0))) (Kd.C_below hr0 hb) hc0 (Kd.C_below hr1 hb) hc1 (hG.alloc _))
  have x0 : (w.alloc (.cells #[.slice A0 P.length c0, .slice A1 T.length c1] 25 (0, 0))).cell? ⟨w.heap.size, 0, none⟩ = some (.slice A0 P.length c0) := hm.cell 0
  have x1 : (w.alloc (.cells #[.slice A0 P.length c0, .slice A1 T.length c1] 25 (0, 0))).cell? ⟨w.heap.size, 1, none⟩ = some (.slice A1 T.length c1) := hm.cell 1
  have hsz : w.heap.size ≤ (w.alloc (.cells #[.slice A0 P.length c0, .slice A1 T.length c1] 25 (0, 0))).heap.size := by simp
  clear ht hm
  go_enter Tryd.func20, Tryd.ntmps20
  go_wp2_with fail
  refine hck.out.mono ?_
  generalize w.alloc (.cells #[.slice A0 P.length c0, .slice A1 T.length c1] 25 (0, 0)) = w1 at *
  clear hck x0 x1
  rintro en w2 (⟨hr, rfl, hb2⟩ | ⟨rfl, b, rfl, w3, hb3, hs3, e, hb2, tg, vm, vn, vv, vo, vt, vg, vs, hA⟩)
  · have hrb : (r == 0) = false := by simpa using hr
    have hHr := Lib.hid hr
    have HB := Lib.hid (hb.trans (hb2.mono hsz))
    clear hr hb2 hb hsz
    go_wp2_with fail
    go_ret2
    exact ⟨_, rfl, Kd.R_nil _ _ _ _ _, HB.out⟩
  · have x9 : w2.cell? ⟨b, 9, none⟩ = some vs := hA.blk.cell 9
    have HR := Lib.hid (Kd.R_mono (Kd.R_lower (hA.steps nin) (Nat.le_trans hsz hs3)) (ok' := fun _ => True) (fun _ _ => trivial))
    have HB := Lib.hid ((hb.trans (hb3.mono hsz)).trans (hb2.mono (Nat.le_trans hsz hs3)))
    clear hb hb2 hb3 hs3 hsz hA
    obtain ⟨As, cs, rfl⟩ := Kd.R_slice HR.out
    rw [List.length_map] at HR
    go_wp2_with fail
    go_ret2
    exact ⟨_, rfl, HR.out, HB.out⟩
theorem order21 : Calls Tryd.prog 21 #[.agg #[.slice A0 P.length c0, .slice A1 T.length c1]] w fun en w' => ∃ v u : Value, en = .returned (.tuple #[v, u, .int .i64 r]) ∧ Kd.R (Kd.int .i64) 3 w' w.heap.size (fun k => some k ≠ u.ownBlock) v (if r = 0 then (wk T).V else []) ∧ Kd.R (Kd.int .i64) 3 w' w.heap.size (fun k => some k ≠ v.ownBlock) u (if r = 0 then (wk T).O.map (fun i : Nat => (i : Int)) else []) ∧ Below w.heap.size w w' := by
  have hb := (Below.refl w.heap.size w).alloc (Nat.le_refl _) (.cells #[.slice A0 P.length c0, .slice A1 T.length c1] 25 (0, 0))
  have hm := Blk.here w 25 #[.slice A0 P.length c0, .slice A1 T.length c1]
  have hck := Lib.hid (walked57 P T r ht A0 c0 A1 c1 (w.alloc (.cells #[.slice A0 P.length c0, .slice A1 T.length c1] 25 (0, 0))) (Kd.C_below hr0 hb) hc0 (Kd.C_below hr1 hb) hc1 (hG.alloc _))
  have x0 : (w.alloc (.cells #[.slice A0 P.length c0, .slice A1 T.length c1] 25 (0, 0))).cell? ⟨w.heap.size, 0, none⟩ = some (.slice A0 P.length c0) := hm.cell 0
  have x1 : (w.alloc (.cells #[.slice A0 P.length c0, .slice A1 T.length c1] 25 (0, 0))).cell? ⟨w.heap.size, 1, none⟩ = some (.slice A1 T.length c1) := hm.cell 1
  have hsz : w.heap.size ≤ (w.alloc (.cells #[.slice A0 P.length c0, .slice A1 T.length c1] 25 (0, 0))).heap.size := by simp
  clear ht hm
  go_enter Tryd.func21, Tryd.ntmps21
  go_wp2_with fail
  refine hck.out.mono ?_
  generalize w.alloc (.cells #[.slice A0 P.length c0, .slice A1 T.length c1] 25 (0, 0)) = w1 at *
  clear hck x0 x1
  rintro en w2 (⟨hr, rfl, hb2⟩ | ⟨rfl, b, rfl, w3, hb3, hs3, e, hb2, tg, vm, vn, vv, vo, vt, vg, vs, hA⟩)
  · have hrb : (r == 0) = false := by simpa using hr
    have hHr := Lib.hid hr
    have HB := Lib.hid (hb.trans (hb2.mono hsz))
    clear hr hb2 hb hsz
    go_wp2_with fail
    go_ret3
    exact ⟨_, _, rfl, Kd.R_nil _ _ _ _ _, Kd.R_nil _ _ _ _ _, HB.out⟩
  · have x5 : w2.cell? ⟨b, 5, none⟩ = some vv := hA.blk.cell 5
    have x6 : w2.cell? ⟨b, 6, none⟩ = some vo := hA.blk.cell 6
    have hlow := Nat.le_trans hsz hs3
    have hne : ∀ k, tg k = 5 → some k ≠ vv.ownBlock := fun k hk ee => by
      have h1 : tg k = 4 := (hA.verts nin).1 k ee.symm
      omega
    have hne' : ∀ k, tg k = 4 → some k ≠ vo.ownBlock := fun k hk ee => by
      have h1 : tg k = 5 := (hA.order nin).1 k ee.symm
      omega
    have HR := Lib.hid (Kd.R_drew (Kd.R_mono (Kd.R_lower (hA.verts nin) hlow) hne'))
    have HR2 := Lib.hid (Kd.R_drew (Kd.R_mono (Kd.R_lower (hA.order nin) hlow) hne))
    have HB := Lib.hid ((hb.trans (hb3.mono hsz)).trans (hb2.mono hlow)).drew
    clear hb hb2 hb3 hs3 hsz hA hlow hne hne'
    obtain ⟨As, cs, rfl⟩ := Kd.R_slice HR.out
    obtain ⟨At, ct, rfl⟩ := Kd.R_slice HR2.out
    rw [List.length_map] at HR2
    rw [List.length_map] at HR
    go_upto_region 4 with fail
    go_region
    go_wp2_with fail
    go_ret3
    exact ⟨_, _, rfl, HR.out, HR2.out, HB.out⟩
end
end Go.Proofs.YtomknjmgcbbjlaaDoor.WW
