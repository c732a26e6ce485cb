import Derived.Test.YtbdpfmpbooikiaaDoorPIsrx3
import Derived.Test.YtbdpfmpbooikiaaDoorMem
import Derived.StillTailTactics
import Derived.WalkLawsBesides
import Derived.Laws.Cover3
namespace Go.Proofs.YtbdpfmpbooikiaaDoor.MD
open Go Go.RowKit Go.Proofs.YtbdpfmpbooikiaaDoor.Mem Go.Proofs.YtbdpfmpbooikiaaDoor.PIsr Go.Proofs.YtbdpfmpbooikiaaDoorW.PrintWords Go.Proofs.YtbdpfmpbooikiaaDoorW.PrintLast Go.Proofs.YtbdpfmpbooikiaaDoorW.PrintMore
set_option linter.unusedVariables false
set_option linter.unusedSimpArgs false
set_option maxHeartbeats 1000000 in
set_option maxRecDepth 100000 in
theorem clone51 (w : World) (A : Option Addr) (l : List S45) (c : Nat) (hr : Kd.C k45 w A l.length l) (hc : l.length ≤ c) (hlen : l.length ≤ 1000000) :
    Calls Tryd.prog 51 #[.slice A l.length c] w fun e w' => ∃ v, e = .returned v ∧ Kd.R k45 45 w' w.heap.size (fun _ => True) v l ∧ Below w.heap.size w w' := by
  have HR := Lib.hid hr
  clear hr
  have hnil : ∀ (w : World) (a : Option Addr) (l c : Nat), (binOp .eql 22 (.slice a l c) (.slice none 0 0)).run Tryd.prog w = .ok (.bool a.isNone) w := fun w a l c => by
    simp [binOp, run_equal_slice_nil w 22 45 a l c Tryd.underlying22]
  have hn1 := fun w (l c : Nat) => hnil w none l c
  have hn2 := fun w (ad : Addr) (l c : Nat) => hnil w (some ad) l c
  clear hnil
  cases A with
  | none =>
    have hl : l = [] := by
      cases l with
      | nil => rfl
      | cons a r =>
        obtain ⟨ad, h, _⟩ := HR.out.2.2 (by simp)
        cases h
    subst hl
    go_enter Tryd.func51, Tryd.ntmps51
    go_wp2
    go_ret
    exact ⟨_, rfl, Kd.R_nil _ _ _ _ _, Below.refl _ _⟩
  | some ad =>
    have hKM : ∀ (W : World) (x : S45) (cs : List Value), k45.K W x cs → k45.M W w.heap.size (fun _ => False) x cs := fun W x cs h => by
      obtain rfl := k45_open h
      exact k45_mkM _ _ _ x
    go_enter Tryd.func51, Tryd.ntmps51
    go_wp2_with (first | ((with_reducible refine gate_dst (N := 5) rfl ?_); refine Kd.R_lit (w0 := w) k45 w.heap.size 45 ?hg (N := 5) ?hd (xs := ([] : List S45)) (inner := []) (ok := fun _ => True) (okp := fun _ => False) ?hr ?hp (fun _ hk => hk.elim) trivial (Below.refl _ _) (Nat.le_refl _) (by decide) ?_; (case hd => rfl); (case hg => rfl); (case hr => first | (go_simp; done) | (go_simp; rfl)); (case hp => exact Reps.none _ _); intro v1 w5 ho5 hb5 hg5 hn5) | ((with_reducible refine gate_builtin (b := .append) (xs := #[.tmp 5, .tmp 6]) rfl ?_); at_builtin; refine Kd.R_append_rows (Rr := k45.K w5) k45 (w0 := w) w.heap.size rfl (.tmp 5) (.tmp 6) 22 45 (.agg #[.int .i64 0, .int .i64 0, .int .i64 0]) 24 rfl Tryd.underlying22 info45 rfl (by decide) (by omega) v1 [] l (some ad) l.length c (fun _ => True) (fun _ => False) rfl rfl ho5 (Kd.C_below HR.out hb5) (hKM w5) (fun _ hk => hk.elim) (fun _ _ => trivial) hb5 hb5.size (by simp; omega) ?_; intro v7 w7 ho7 hb7 hg7 hn7))
    go_ret
    exact ⟨_, rfl, by simpa using ho7, hb7⟩
set_option maxHeartbeats 1000000 in
set_option maxRecDepth 100000 in
theorem clone52 (w : World) (A : Option Addr) (l : List S57) (c : Nat) (hr : Kd.C k57 w A l.length l) (hc : l.length ≤ c) (hlen : l.length ≤ 1000000) :
    Calls Tryd.prog 52 #[.slice A l.length c] w fun e w' => ∃ v, e = .returned v ∧ Kd.R k57 57 w' w.heap.size (fun _ => True) v l ∧ Below w.heap.size w w' := by
  have HR := Lib.hid hr
  clear hr
  have hnil : ∀ (w : World) (a : Option Addr) (l c : Nat), (binOp .eql 23 (.slice a l c) (.slice none 0 0)).run Tryd.prog w = .ok (.bool a.isNone) w := fun w a l c => by
    simp [binOp, run_equal_slice_nil w 23 57 a l c Tryd.underlying23]
  have hn1 := fun w (l c : Nat) => hnil w none l c
  have hn2 := fun w (ad : Addr) (l c : Nat) => hnil w (some ad) l c
  clear hnil
  cases A with
  | none =>
    have hl : l = [] := by
      cases l with
      | nil => rfl
      | cons a r =>
        obtain ⟨ad, h, _⟩ := HR.out.2.2 (by simp)
        cases h
    subst hl
    go_enter Tryd.func52, Tryd.ntmps52
    go_wp2
    go_ret
    exact ⟨_, rfl, Kd.R_nil _ _ _ _ _, Below.refl _ _⟩
  | some ad =>
    have hKM : ∀ (W : World) (x : S57) (cs : List Value), k57.K W x cs → k57.M W w.heap.size (fun _ => False) x cs := fun W x cs h => by
      obtain rfl := k57_open h
      exact k57_mkM _ _ _ x
    go_enter Tryd.func52, Tryd.ntmps52
    go_wp2_with (first | ((with_reducible refine gate_dst (N := 5) rfl ?_); refine Kd.R_lit (w0 := w) k57 w.heap.size 57 ?hg (N := 5) ?hd (xs := ([] : List S57)) (inner := []) (ok := fun _ => True) (okp := fun _ => False) ?hr ?hp (fun _ hk => hk.elim) trivial (Below.refl _ _) (Nat.le_refl _) (by decide) ?_; (case hd => rfl); (case hg => rfl); (case hr => first | (go_simp; done) | (go_simp; rfl)); (case hp => exact Reps.none _ _); intro v1 w5 ho5 hb5 hg5 hn5) | ((with_reducible refine gate_builtin (b := .append) (xs := #[.tmp 5, .tmp 6]) rfl ?_); at_builtin; refine Kd.R_append_rows (Rr := k57.K w5) k57 (w0 := w) w.heap.size rfl (.tmp 5) (.tmp 6) 23 57 (.agg #[.int .i64 0, .int .i64 0, .int .i64 0]) 24 rfl Tryd.underlying23 info57 rfl (by decide) (by omega) v1 [] l (some ad) l.length c (fun _ => True) (fun _ => False) rfl rfl ho5 (Kd.C_below HR.out hb5) (hKM w5) (fun _ hk => hk.elim) (fun _ _ => trivial) hb5 hb5.size (by simp; omega) ?_; intro v7 w7 ho7 hb7 hg7 hn7))
    go_ret
    exact ⟨_, rfl, by simpa using ho7, hb7⟩
set_option maxHeartbeats 1000000 in
set_option maxRecDepth 100000 in
theorem copy41 (w : World) (A0 A1 : Option Addr) (l0 : List S45) (l1 : List S57) (c0 c1 : Nat) (hr0 : Kd.C k45 w A0 l0.length l0) (hc0 : l0.length ≤ c0) (hr1 : Kd.C k57 w A1 l1.length l1) (hc1 : l1.length ≤ c1) (h0 : l0.length ≤ 1000000) (h1 : l1.length ≤ 1000000) :
    Calls Tryd.prog 41 #[.agg #[.slice A0 l0.length c0, .slice A1 l1.length c1]] w fun e w' => ∃ v0 v1, e = .returned (.agg #[v0, v1]) ∧ Kd.R k45 45 w' w.heap.size (fun _ => True) v0 l0 ∧ Kd.R k57 57 w' w.heap.size (fun _ => True) v1 l1 ∧ Below w.heap.size w w' := by
  have HR0 := Lib.hid hr0
  have HR1 := Lib.hid hr1
  clear hr0 hr1
  have hb1 := ((Below.refl w.heap.size w).alloc (Nat.le_refl _) (.cells #[.slice A0 l0.length c0, .slice A1 l1.length c1] 25 (0, 0))).alloc (by simp) (.cells #[.slice none 0 0, .slice none 0 0] 25 (0, 0))
  have hm1 := (Blk.here w 25 #[.slice A0 l0.length c0, .slice A1 l1.length c1]).alloc (.cells #[.slice none 0 0, .slice none 0 0] 25 (0, 0))
  have hz1 := Blk.here (w.alloc (.cells #[.slice A0 l0.length c0, .slice A1 l1.length c1] 25 (0, 0))) 25 #[.slice none 0 0, .slice none 0 0]
  rw [show (w.alloc (.cells #[.slice A0 l0.length c0, .slice A1 l1.length c1] 25 (0, 0))).heap.size = w.heap.size + 1 by simp] at hz1
  go_enter Tryd.func41, Tryd.ntmps41
  go_wp2_with fail
  generalize (w.alloc (.cells #[.slice A0 l0.length c0, .slice A1 l1.length c1] 25 (0, 0))).alloc (.cells #[.slice none 0 0, .slice none 0 0] 25 (0, 0)) = w1 at *
  have hbd := hb1.drew
  have hmd := hm1.drew
  have hzd := hz1.drew
  generalize hgz : w.heap.size + 1 = gz at *
  have hlz : w.heap.size < gz := by omega
  have x0 : w1.drew.cell? ⟨w.heap.size, 0, none⟩ = some (.slice A0 l0.length c0) := hmd.cell 0
  have x1 : w1.drew.cell? ⟨w.heap.size, 1, none⟩ = some (.slice A1 l1.length c1) := hmd.cell 1
  clear hb1 hm1 hz1
  go_region_held3 (fun w' => w'.cell? ⟨w.heap.size, 0, none⟩ = some (.slice A0 l0.length c0) ∧ w'.cell? ⟨w.heap.size, 1, none⟩ = some (.slice A1 l1.length c1)) (first | exact ⟨x0, x1⟩ | exact ⟨hm5.cell 0, hm5.cell 1⟩ | exact ⟨hm6.cell 0, hm6.cell 1⟩ | exact ⟨hm7.cell 0, hm7.cell 1⟩ | exact ⟨hm8.cell 0, hm8.cell 1⟩)
    (first | (go_at_call 51; refine (clone51 w1.drew A0 l0 c0 (Kd.C_below HR0.out hbd) hc0 h0).mono ?_; rintro e w5 ⟨v0, rfl, ho0, hb5⟩; have hm5 := hmd.below hb5; have hB5 := hbd.trans (hb5.mono hbd.size); have hz5 := hzd.below hb5) | (go_at_call 52; refine (clone52 w5 A1 l1 c1 (Kd.C_below HR1.out hB5) hc1 h1).mono ?_; rintro e w6 ⟨v1, rfl, ho1, hb6⟩; have hm6 := hm5.below hb6; have hB6 := hB5.trans (hb6.mono hB5.size); have hz6 := hz5.below hb6; have r0 : w6.cell? ⟨gz, 0, none⟩ = some (.slice none 0 0) := hz6.cell 0; have r1 : w6.cell? ⟨gz, 1, none⟩ = some (.slice none 0 0) := hz6.cell 1; have f0 : w6.frozen? ⟨gz, 0, none⟩ = false := hz6.frozen 0; have f1 : w6.frozen? ⟨gz, 1, none⟩ = false := hz6.frozen 1; obtain ⟨B0, d0, rfl⟩ := Kd.R_slice ho0; obtain ⟨B1, d1, rfl⟩ := Kd.R_slice ho1; have hm7 := hm6.far (p := ⟨gz, 0, none⟩) (by show w.heap.size ≠ gz; omega) (.slice B0 l0.length d0); have hm8 := hm7.far (p := ⟨gz, 1, none⟩) (by show w.heap.size ≠ gz; omega) (.slice B1 l1.length d1)))
  have hbase : w.heap.size ≤ w1.drew.heap.size := hbd.size
  have hz7 := hz6.set_ 0 (.slice B0 l0.length d0)
  have q0 := Kd.R_set (Kd.R_set (Kd.R_below ho0 hb6) hz6 (by decide) 0 (.slice B0 l0.length d0)) hz7 (by decide) 1 (.slice B1 l1.length d1)
  have q1 := Kd.R_set (Kd.R_set ho1 hz6 (by decide) 0 (.slice B0 l0.length d0)) hz7 (by decide) 1 (.slice B1 l1.length d1)
  have hB8 := (hB6.setCell (p := ⟨gz, 0, none⟩) (by show w.heap.size ≤ gz; omega) (.slice B0 l0.length d0)).setCell (p := ⟨gz, 1, none⟩) (by show w.heap.size ≤ gz; omega) (.slice B1 l1.length d1)
  have l5 := hB5.size
  have z0 : ((w6.setCell ⟨gz, 0, none⟩ (.slice B0 l0.length d0)).setCell ⟨gz, 1, none⟩ (.slice B1 l1.length d1)).cell? ⟨gz, 0, none⟩ = some (.slice B0 l0.length d0) := (hz7.set_ 1 (.slice B1 l1.length d1)).cell 0
  have z1 : ((w6.setCell ⟨gz, 0, none⟩ (.slice B0 l0.length d0)).setCell ⟨gz, 1, none⟩ (.slice B1 l1.length d1)).cell? ⟨gz, 1, none⟩ = some (.slice B1 l1.length d1) := (hz7.set_ 1 (.slice B1 l1.length d1)).cell 1
  clear ho0 ho1 hm5 hm6 hm7 hm8 hz5 hz6 hz7 hzd hmd
  go_wp2
  refine bodyPost_ret (v := .agg #[.slice B0 l0.length d0, .slice B1 l1.length d1]) (by rw [results, show Tryd.f41.results = #[.cell 2 25] from rfl]; go_simp) rfl ?_
  exact ⟨_, _, rfl, Kd.R_lower q0 hbase, Kd.R_lower q1 l5, hB8⟩
end Go.Proofs.YtbdpfmpbooikiaaDoor.MD
namespace Go.Proofs.YtbdpfmpbooikiaaDoor.MD
open Go Go.RowKit Go.Proofs.YtbdpfmpbooikiaaDoor.Mem Go.Proofs.YtbdpfmpbooikiaaDoor.PIsr Go.Proofs.YtbdpfmpbooikiaaDoorW.PrintWords Go.Proofs.YtbdpfmpbooikiaaDoorW.PrintLast Go.Proofs.YtbdpfmpbooikiaaDoorW.PrintMore
set_option linter.unusedVariables false
set_option linter.unusedSimpArgs false
def renP (num : List Int) (l0 : List S45) : Nat → List S45
  | 0 => l0
  | i + 1 => (renP num l0 i).set (num.getD i 0).toNat (l0.getD i z45)
def renK (num : List Int) (q : S57) : Nat → S57
  | 0 => q
  | 1 => ⟨num.getD q.f0.toNat 0, q.f1, q.f2⟩
  | 2 => ⟨num.getD q.f0.toNat 0, num.getD q.f1.toNat 0, q.f2⟩
  | _ => ⟨num.getD q.f0.toNat 0, num.getD q.f1.toNat 0, num.getD q.f2.toNat 0⟩
def renT (num : List Int) (l1 : List S57) : Nat → List S57
  | 0 => l1
  | i + 1 => (renT num l1 i).set i (renK num (l1.getD i z57) 3)
theorem renP_len (num : List Int) (l0 : List S45) (i : Nat) : (renP num l0 i).length = l0.length := by
  induction i with
  | zero => rfl
  | succ i ih => rw [renP, List.length_set, ih]
theorem renT_len (num : List Int) (l1 : List S57) (i : Nat) : (renT num l1 i).length = l1.length := by
  induction i with
  | zero => rfl
  | succ i ih => rw [renT, List.length_set, ih]
theorem renT_later (num : List Int) (l1 : List S57) (i j : Nat) (h : i ≤ j) : (renT num l1 i).getD j z57 = l1.getD j z57 := by
  induction i with
  | zero => rfl
  | succ i ih => rw [renT, List.getD_eq_getElem?_getD, List.getElem?_set_ne (by omega), ← List.getD_eq_getElem?_getD]; exact ih (by omega)
theorem cells45 {w : World} {base g n cap : Nat} {ok : Nat → Prop} {xs : List S45} (h : Kd.R k45 45 w base ok (.slice (some ⟨g, 0, none⟩) n cap) xs) (i : Nat) (hi : i < xs.length) :
    (∀ j u, ([.int .i64 (xs.getD i z45).f0, .int .i64 (xs.getD i z45).f1, .int .i64 (xs.getD i z45).f2] : List Value)[j]? = some u → w.cell? ⟨g, (i : Int).toNat * k45.sz + j, none⟩ = some u) ∧ (∀ j, w.frozen? ⟨g, j, none⟩ = false) ∧ (∃ cls, Blk w g 45 cls) ∧ n = xs.length := by
  obtain ⟨A2, c2, hv, _, hC2⟩ := Kd.R_reads h
  injection hv with hv1 hn _
  subst hv1
  obtain ⟨ad2, cc, he, _, hK, hc2⟩ := Kd.C_get hC2 z45 (i : Int) (by omega) (by omega)
  cases he
  rw [Int.toNat_natCast] at hK
  obtain rfl := k45_open hK
  obtain ⟨g', cap', hv', _, _, cls, hb⟩ := Kd.R_form h (by omega)
  injection hv' with h4 _ _
  injection h4 with h4
  injection h4 with h4
  subst h4
  refine ⟨fun j u hj => ?_, fun j => Blk.frozen (t := 45) (cs := cls) hb j, ⟨cls, hb⟩, hn⟩
  have := hc2 j u hj
  rw [Addr.add_lit, Nat.zero_add] at this
  exact this
theorem cells57 {w : World} {base g n cap : Nat} {ok : Nat → Prop} {xs : List S57} (h : Kd.R k57 57 w base ok (.slice (some ⟨g, 0, none⟩) n cap) xs) (i : Nat) (hi : i < xs.length) :
    (∀ j u, ([.int .i64 (xs.getD i z57).f0, .int .i64 (xs.getD i z57).f1, .int .i64 (xs.getD i z57).f2] : List Value)[j]? = some u → w.cell? ⟨g, (i : Int).toNat * k57.sz + j, none⟩ = some u) ∧ (∀ j, w.frozen? ⟨g, j, none⟩ = false) ∧ (∃ cls, Blk w g 57 cls) ∧ n = xs.length := by
  obtain ⟨A2, c2, hv, _, hC2⟩ := Kd.R_reads h
  injection hv with hv1 hn _
  subst hv1
  obtain ⟨ad2, cc, he, _, hK, hc2⟩ := Kd.C_get hC2 z57 (i : Int) (by omega) (by omega)
  cases he
  rw [Int.toNat_natCast] at hK
  obtain rfl := k57_open hK
  obtain ⟨g', cap', hv', _, _, cls, hb⟩ := Kd.R_form h (by omega)
  injection hv' with h4 _ _
  injection h4 with h4
  injection h4 with h4
  subst h4
  refine ⟨fun j u hj => ?_, fun j => Blk.frozen (t := 57) (cs := cls) hb j, ⟨cls, hb⟩, hn⟩
  have := hc2 j u hj
  rw [Addr.add_lit, Nat.zero_add] at this
  exact this
theorem put45 {w : World} {base g n cap : Nat} {ok : Nat → Prop} {xs : List S45} (h : Kd.R k45 45 w base ok (.slice (some ⟨g, 0, none⟩) n cap) xs) (i : Nat) (hi : i < xs.length) (x : S45) :
    Kd.R k45 45 (((w.setCell ⟨g, i * 3, none⟩ (.int .i64 x.f0)).setCell ⟨g, i * 3 + 1, none⟩ (.int .i64 x.f1)).setCell ⟨g, i * 3 + 2, none⟩ (.int .i64 x.f2)) base ok (.slice (some ⟨g, 0, none⟩) n cap) (xs.set i x) := by
  obtain ⟨hc, _, _, hn⟩ := cells45 h i hi
  have := (Kd.R_seg (d := k45) (seg := [.int .i64 x.f0, .int .i64 x.f1, .int .i64 x.f2]) (j := 0) (x' := x) (okp := fun _ => False) h (i : Int) (by omega) (by omega) rfl hc (show 0 + 3 ≤ 3 by decide) (k45_mkM _ _ _ x) (fun _ hk => hk.elim)).1
  exact this
theorem idx57_0_r (w : World) (a0 a1 a2 : Value) : (Instr.index 57 (.agg #[a0, a1, a2]) (.int .i64 0)).run Tryd.prog w = .ok a0 w := by first | rfl | kernel_rfl
theorem idx57_1_r (w : World) (a0 a1 a2 : Value) : (Instr.index 57 (.agg #[a0, a1, a2]) (.int .i64 1)).run Tryd.prog w = .ok a1 w := by first | rfl | kernel_rfl
theorem idx57_2_r (w : World) (a0 a1 a2 : Value) : (Instr.index 57 (.agg #[a0, a1, a2]) (.int .i64 2)).run Tryd.prog w = .ok a2 w := by first | rfl | kernel_rfl
theorem form_ {α : Type} {k : Kd α} {e : Nat} {w : World} {base n cap : Nat} {ok : Nat → Prop} {B : Option Addr} {xs : List α} (h : Kd.R k e w base ok (.slice B n cap) xs) (hp : 0 < xs.length) :
    ∃ g cells, B = some ⟨g, 0, none⟩ ∧ base ≤ g ∧ Blk w g e cells := by
  obtain ⟨g, cap', hv, h1, _, cl, hb⟩ := Kd.R_form h hp
  injection hv with e1 e2 e3
  exact ⟨g, cl, e1, h1, hb⟩
set_option maxHeartbeats 1000000 in
set_option maxRecDepth 100000 in
theorem renamed29 (w : World) (A0 A1 A2 : Option Addr) (l0 : List S45) (l1 : List S57) (num : List Int) (c0 c1 c2 : Nat) (hr0 : Kd.C k45 w A0 l0.length l0) (hc0 : l0.length ≤ c0) (hr1 : Kd.C k57 w A1 l1.length l1) (hc1 : l1.length ≤ c1) (hr2 : Kd.C (Kd.int .i64) w A2 num.length num) (hc2 : num.length ≤ c2)
    (h0 : l0.length ≤ 1000000) (h1 : l1.length ≤ 1000000) (hn : num.length = l0.length) (hin : ∀ i, i < num.length → 0 ≤ num.getD i 0 ∧ num.getD i 0 < l0.length) (hb : ∀ q ∈ l1, (0 ≤ q.f0 ∧ q.f0 < l0.length) ∧ (0 ≤ q.f1 ∧ q.f1 < l0.length) ∧ (0 ≤ q.f2 ∧ q.f2 < l0.length)) :
    Calls Tryd.prog 29 #[.agg #[.slice A0 l0.length c0, .slice A1 l1.length c1], .slice A2 num.length c2] w fun e w' => ∃ v0 v1, e = .returned (.agg #[v0, v1]) ∧ Kd.R k45 45 w' w.heap.size (fun _ => True) v0 (renP num l0 l0.length) ∧ Kd.R k57 57 w' w.heap.size (fun _ => True) v1 (renT num l1 l1.length) ∧ Below w.heap.size w w' := by
  have HR0 := Lib.hid hr0
  have HR1 := Lib.hid hr1
  have HR2 := Lib.hid hr2
  have HIN := Lib.hid hin
  have HBD := Lib.hid hb
  clear hr0 hr1 hr2 hin hb
  have hb1 := ((Below.refl w.heap.size w).alloc (Nat.le_refl _) (.cells #[.slice A0 l0.length c0, .slice A1 l1.length c1] 25 (0, 0))).alloc (by simp) (.cells #[.slice none 0 0, .slice none 0 0] 25 (0, 0))
  have hm1 := (Blk.here w 25 #[.slice A0 l0.length c0, .slice A1 l1.length c1]).alloc (.cells #[.slice none 0 0, .slice none 0 0] 25 (0, 0))
  have hz1 := Blk.here (w.alloc (.cells #[.slice A0 l0.length c0, .slice A1 l1.length c1] 25 (0, 0))) 25 #[.slice none 0 0, .slice none 0 0]
  rw [show (w.alloc (.cells #[.slice A0 l0.length c0, .slice A1 l1.length c1] 25 (0, 0))).heap.size = w.heap.size + 1 by simp] at hz1
  go_enter Tryd.func29, Tryd.ntmps29
  go_wp2_with fail
  generalize (w.alloc (.cells #[.slice A0 l0.length c0, .slice A1 l1.length c1] 25 (0, 0))).alloc (.cells #[.slice none 0 0, .slice none 0 0] 25 (0, 0)) = w1 at *
  refine (copy41 w1 A0 A1 l0 l1 c0 c1 (Kd.C_below HR0.out hb1) hc0 (Kd.C_below HR1.out hb1) hc1 h0 h1).mono ?_
  rintro e w2 ⟨v0, v1, rfl, ho0, ho1, hb2⟩
  have hB2 := hb1.trans (hb2.mono hb1.size)
  have hm2 := hm1.below hb2
  have hz2 := hz1.below hb2
  have R0 := Kd.R_lower ho0 hb1.size
  have R1 := Kd.R_lower ho1 hb1.size
  obtain ⟨B0, d0, rfl⟩ := Kd.R_slice R0
  obtain ⟨B1, d1, rfl⟩ := Kd.R_slice R1
  have hB3 := below_alloc hB2 (.cells #[.slice B0 l0.length d0, .slice B1 l1.length d1] 25 (0, 0))
  have hm3 := hm2.alloc (.cells #[.slice B0 l0.length d0, .slice B1 l1.length d1] 25 (0, 0))
  have hz3 := hz2.alloc (.cells #[.slice B0 l0.length d0, .slice B1 l1.length d1] 25 (0, 0))
  have ho3 := Blk.here w2 25 #[.slice B0 l0.length d0, .slice B1 l1.length d1]
  have R03 := Kd.R_alloc R0 (.cells #[.slice B0 l0.length d0, .slice B1 l1.length d1] 25 (0, 0))
  have R13 := Kd.R_alloc R1 (.cells #[.slice B0 l0.length d0, .slice B1 l1.length d1] 25 (0, 0))
  have hlt2 := hz2.lt
  clear ho0 ho1 hb1 hm1 hz1 hb2 hB2 hm2 hz2 R0 R1
  obtain ⟨gw, hgw⟩ : ∃ g, g = w2.heap.size := ⟨_, rfl⟩
  obtain ⟨gz, hgz⟩ : ∃ g, g = w.heap.size + 1 := ⟨_, rfl⟩
  rw [← hgw] at ho3 hlt2
  rw [← hgz] at hz3
  have x0 : (w2.alloc (.cells #[.slice B0 l0.length d0, .slice B1 l1.length d1] 25 (0, 0))).cell? ⟨w.heap.size, 0, none⟩ = some (.slice A0 l0.length c0) := hm3.cell 0
  have HN := Lib.hid hn
  clear hn
  go_wp2_with fail
  generalize (w2.alloc (.cells #[.slice B0 l0.length d0, .slice B1 l1.length d1] 25 (0, 0))) = w3 at *
  rw [← hgw]
  have HL0 := Lib.hid h0
  have HL1 := Lib.hid h1
  have hgw1 : w.heap.size ≠ gw := by omega
  have hgw2 : w.heap.size ≤ gw := by omega
  have hgw3 : gz ≠ gw := by omega
  clear x0 hlt2 hgw h0 h1
  obtain ⟨MS, hMS⟩ : ∃ a : Array Value, a = #[.slice A0 l0.length c0, .slice A1 l1.length c1] := ⟨_, rfl⟩
  obtain ⟨OS, hOS⟩ : ∃ a : Array Value, a = #[.slice B0 l0.length d0, .slice B1 l1.length d1] := ⟨_, rfl⟩
  rw [← hMS] at hm3
  rw [← hOS] at ho3
  have hMS0 : ∀ (v : World), Blk v w.heap.size 25 MS → v.cell? ⟨w.heap.size, 0, none⟩ = some (.slice A0 l0.length c0) ∧ v.cell? ⟨w.heap.size, 1, none⟩ = some (.slice A1 l1.length c1) := fun v h => ⟨by rw [h.cell 0, hMS]; rfl, by rw [h.cell 1, hMS]; rfl⟩
  have hOS0 : ∀ (v : World), Blk v gw 25 OS → v.cell? ⟨gw, 0, none⟩ = some (.slice B0 l0.length d0) ∧ v.cell? ⟨gw, 1, none⟩ = some (.slice B1 l1.length d1) := fun v h => ⟨by rw [h.cell 0, hOS]; rfl, by rw [h.cell 1, hOS]; rfl⟩
  replace hMS := Lib.hid hMS
  replace hOS := Lib.hid hOS
  replace hMS0 := Lib.hid hMS0
  replace hOS0 := Lib.hid hOS0
  go_loopw [17] (fun v17 wr => ∃ i : Int, v17 = .int .i64 i ∧ 0 ≤ i ∧ i ≤ l0.length ∧ Below w.heap.size w wr ∧ Blk wr w.heap.size 25 MS ∧ Blk wr gz 25 #[.slice none 0 0, .slice none 0 0] ∧ Blk wr gw 25 OS ∧ Kd.R k45 45 wr w.heap.size (fun _ => True) (.slice B0 l0.length d0) (renP num l0 i.toNat) ∧ Kd.R k57 57 wr w.heap.size (fun _ => True) (.slice B1 l1.length d1) l1) (fun v17 _ => l0.length - (intOf v17).toNat)
  case atStart => exact ⟨0, rfl, by omega, by omega, hB3, hm3, hz3, ho3, R03, R13⟩
  case round =>
    clear hB3 hm3 hz3 ho3 R03 R13
    obtain ⟨i, rfl, hi0, hi1, hB, hm, hz, ho, hR0, hR1⟩ := hrel
    by_cases hlt : i < l0.length
    · have dl : decide (i < (l0.length : Int)) = true := decide_eq_true hlt
      obtain ⟨ad0, e1, y0, y1, y2⟩ := at_T45 (Kd.C_below HR0.out hB) i hi0 hlt
      cases e1
      have p1 := eq_true hi0
      have p2 := eq_true hlt
      have hq1 : l0.getD i.toNat z45 = rd_T45 l0 i := rfl
      generalize rd_T45 l0 i = q at *
      have hB2 := below_alloc hB (.cells #[.int .i64 q.f0, .int .i64 q.f1, .int .i64 q.f2] 45 (0, 0))
      have hm2 := hm.alloc (.cells #[.int .i64 q.f0, .int .i64 q.f1, .int .i64 q.f2] 45 (0, 0))
      have hz2 := hz.alloc (.cells #[.int .i64 q.f0, .int .i64 q.f1, .int .i64 q.f2] 45 (0, 0))
      have ho2 := ho.alloc (.cells #[.int .i64 q.f0, .int .i64 q.f1, .int .i64 q.f2] 45 (0, 0))
      have hp2 := Blk.here wr 45 #[.int .i64 q.f0, .int .i64 q.f1, .int .i64 q.f2]
      have hR02 := Kd.R_alloc hR0 (.cells #[.int .i64 q.f0, .int .i64 q.f1, .int .i64 q.f2] 45 (0, 0))
      have hR12 := Kd.R_alloc hR1 (.cells #[.int .i64 q.f0, .int .i64 q.f1, .int .i64 q.f2] 45 (0, 0))
      have hpl := hR0
      replace hq1 := Lib.hid hq1
      go_wp2_with fail
      obtain ⟨gp, hgp⟩ : ∃ g, g = wr.heap.size := ⟨_, rfl⟩
      rw [← hgp] at hp2 ⊢
      generalize wr.alloc (.cells #[.int .i64 q.f0, .int .i64 q.f1, .int .i64 q.f2] 45 (0, 0)) = w4 at *
      clear hB hm hz ho hR0 hR1 y0 y1 y2 hpl
      obtain ⟨gP, clP, rfl, hgP1, hbP⟩ := form_ hR02 (by rw [renP_len]; omega)
      obtain ⟨ad2, e2, n0⟩ := Kd.at_int (Kd.C_below HR2.out hB2.drew) i hi0 (by rw [HN.out]; exact hlt)
      cases e2
      have hin := HIN.out i.toNat (by rw [HN.out]; omega)
      have hrd : rd num i = num.getD i.toNat 0 := rfl
      rw [hrd] at n0
      generalize hnv : num.getD i.toNat 0 = nv at *
      have r0 := (hOS0.out w4.drew ho2.drew).1
      have b0 : w4.drew.cell? ⟨gp, 0, none⟩ = some (.int .i64 q.f0) := hp2.drew.cell 0
      have b1 : w4.drew.cell? ⟨gp, 1, none⟩ = some (.int .i64 q.f1) := hp2.drew.cell 1
      have b2 : w4.drew.cell? ⟨gp, 2, none⟩ = some (.int .i64 q.f2) := hp2.drew.cell 2
      obtain ⟨cc, fr, -, -⟩ := cells45 hR02 nv.toNat (by rw [renP_len]; omega)
      have c0' : w4.drew.cell? ⟨gP, nv.toNat * 3, none⟩ = some _ := cc 0 _ rfl
      have c1' : w4.drew.cell? ⟨gP, nv.toNat * 3 + 1, none⟩ = some _ := cc 1 _ rfl
      have c2' : w4.drew.cell? ⟨gP, nv.toNat * 3 + 2, none⟩ = some _ := cc 2 _ rfl
      have f0' : w4.drew.frozen? ⟨gP, nv.toNat * 3, none⟩ = false := fr _
      have f1' : w4.drew.frozen? ⟨gP, nv.toNat * 3 + 1, none⟩ = false := fr _
      have f2' : w4.drew.frozen? ⟨gP, nv.toNat * 3 + 2, none⟩ = false := fr _
      have c1w : w4.cell? ⟨gP, nv.toNat * 3 + 1, none⟩ = some _ := cc 1 _ rfl
      have c2w : w4.cell? ⟨gP, nv.toNat * 3 + 2, none⟩ = some _ := cc 2 _ rfl
      have f1w : w4.frozen? ⟨gP, nv.toNat * 3 + 1, none⟩ = false := fr _
      have f2w : w4.frozen? ⟨gP, nv.toNat * 3 + 2, none⟩ = false := fr _
      have hi2 : i < (num.length : Int) := by rw [HN.out]; exact hlt
      have p3 := eq_true hi2
      have p4 := eq_true hin.1
      have p5 := eq_true hin.2
      have pt := put45 (Kd.R_drew hR02) nv.toNat (by rw [renP_len]; omega) q
      have hnx : (renP num l0 i.toNat).set nv.toNat q = renP num l0 (i + 1).toNat := by
        rw [show (i + 1).toNat = i.toNat + 1 by omega, renP, hnv, hq1.out]
      rw [hnx] at pt
      have hbd : Blk w4.drew gP 45 clP := hbP
      have e1 := (hbd.ne_ hm2.drew (by decide)).symm
      have e2 := (hbd.ne_ hz2.drew (by decide)).symm
      have e3 := (hbd.ne_ ho2.drew (by decide)).symm
      have hm5 := ((hm2.drew.far (p := ⟨gP, nv.toNat * 3, none⟩) e1 (.int .i64 q.f0)).far (p := ⟨gP, nv.toNat * 3 + 1, none⟩) e1 (.int .i64 q.f1)).far (p := ⟨gP, nv.toNat * 3 + 2, none⟩) e1 (.int .i64 q.f2)
      have hz5 := ((hz2.drew.far (p := ⟨gP, nv.toNat * 3, none⟩) e2 (.int .i64 q.f0)).far (p := ⟨gP, nv.toNat * 3 + 1, none⟩) e2 (.int .i64 q.f1)).far (p := ⟨gP, nv.toNat * 3 + 2, none⟩) e2 (.int .i64 q.f2)
      have ho5 := ((ho2.drew.far (p := ⟨gP, nv.toNat * 3, none⟩) e3 (.int .i64 q.f0)).far (p := ⟨gP, nv.toNat * 3 + 1, none⟩) e3 (.int .i64 q.f1)).far (p := ⟨gP, nv.toNat * 3 + 2, none⟩) e3 (.int .i64 q.f2)
      have q5 := Kd.R_set (Kd.R_set (Kd.R_set (Kd.R_drew hR12) hbd (by decide) (nv.toNat * 3) (.int .i64 q.f0)) (hbd.set_ _ _) (by decide) (nv.toNat * 3 + 1) (.int .i64 q.f1)) ((hbd.set_ _ _).set_ _ _) (by decide) (nv.toNat * 3 + 2) (.int .i64 q.f2)
      have hB5 := ((hB2.drew.setCell (p := ⟨gP, nv.toNat * 3, none⟩) hgP1 (.int .i64 q.f0)).setCell (p := ⟨gP, nv.toNat * 3 + 1, none⟩) hgP1 (.int .i64 q.f1)).setCell (p := ⟨gP, nv.toNat * 3 + 2, none⟩) hgP1 (.int .i64 q.f2)
      generalize renP num l0 i.toNat = cur at *
      clear hR12 ho2 hm2 hz2 hB2 hp2 hgp hbP cc hR02 hbd hnx hin e1 e2 e3 fr
      go_region
      go_wp2_with fail
      go_roundw
      case rel =>
        have := HL0.out
        exact ⟨i + 1, by rw [w64 (by omega) (by omega)], by omega, by omega, hB5, hm5, hz5, ho5, pt, q5⟩
      case measure =>
        have := HL0.out
        simp [intOf, w64 (show -9223372036854775808 ≤ i + 1 by omega) (by omega)]; omega
    · have dl : decide (i < (l0.length : Int)) = false := decide_eq_false hlt
      have hin : i.toNat = l0.length := by omega
      rw [hin] at hR0
      obtain ⟨x0, x1⟩ := hMS0.out wr hm
      obtain ⟨R0, hR0d⟩ : ∃ l, l = renP num l0 l0.length := ⟨_, rfl⟩
      rw [← hR0d] at hR0
      replace hR0d := Lib.hid hR0d
      go_wp2_with fail
      clear x0 x1
      go_loopw [34] (fun v34 wr => ∃ i : Int, v34 = .int .i64 i ∧ 0 ≤ i ∧ i ≤ l1.length ∧ Below w.heap.size w wr ∧ Blk wr w.heap.size 25 MS ∧ Blk wr gz 25 #[.slice none 0 0, .slice none 0 0] ∧ Blk wr gw 25 OS ∧ Kd.R k45 45 wr w.heap.size (fun _ => True) (.slice B0 l0.length d0) R0 ∧ Kd.R k57 57 wr w.heap.size (fun _ => True) (.slice B1 l1.length d1) (renT num l1 i.toNat)) (fun v34 _ => l1.length - (intOf v34).toNat)
      case atStart => exact ⟨0, rfl, by omega, by omega, hB, hm, hz, ho, hR0, hR1⟩
      case round =>
        clear hB hm hz ho hR0 hR1 hi0 hi1 dl hin hlt
        obtain ⟨i, rfl, hi0, hi1, hB, hm, hz, ho, hR0, hR1⟩ := hrel
        by_cases hlt : i < l1.length
        · have dl : decide (i < (l1.length : Int)) = true := decide_eq_true hlt
          obtain ⟨ad1, e1, y0, y1, y2⟩ := at_T57 (Kd.C_below HR1.out hB) i hi0 hlt
          cases e1
          have p1 := eq_true hi0
          have p2 := eq_true hlt
          have hq := HBD.out (rd_T57 l1 i) (List.mem_of_getElem? (show l1[i.toNat]? = some (rd_T57 l1 i) by unfold rd_T57; rw [List.getD_eq_getElem?_getD, List.getElem?_eq_getElem (by omega)]; rfl))
          have hq1 : l1.getD i.toNat z57 = rd_T57 l1 i := rfl
          generalize rd_T57 l1 i = q at *
          have hB2 := below_alloc hB (.cells #[.int .i64 q.f0, .int .i64 q.f1, .int .i64 q.f2] 57 (0, 0))
          have hm2 := hm.alloc (.cells #[.int .i64 q.f0, .int .i64 q.f1, .int .i64 q.f2] 57 (0, 0))
          have hz2 := hz.alloc (.cells #[.int .i64 q.f0, .int .i64 q.f1, .int .i64 q.f2] 57 (0, 0))
          have ho2 := ho.alloc (.cells #[.int .i64 q.f0, .int .i64 q.f1, .int .i64 q.f2] 57 (0, 0))
          have hp2 := Blk.here wr 57 #[.int .i64 q.f0, .int .i64 q.f1, .int .i64 q.f2]
          have hR02 := Kd.R_alloc hR0 (.cells #[.int .i64 q.f0, .int .i64 q.f1, .int .i64 q.f2] 57 (0, 0))
          have hR12 := Kd.R_alloc hR1 (.cells #[.int .i64 q.f0, .int .i64 q.f1, .int .i64 q.f2] 57 (0, 0))
          replace hq1 := Lib.hid hq1
          go_wp2_with fail
          generalize wr.alloc (.cells #[.int .i64 q.f0, .int .i64 q.f1, .int .i64 q.f2] 57 (0, 0)) = w4 at *
          clear hB hm hz ho hR0 hR1 y0 y1 y2 hp2
          have hcur := hq1.out
          rw [← renT_later num l1 i.toNat i.toNat (Nat.le_refl _)] at hcur
          obtain ⟨cur, hcu⟩ : ∃ l, l = renT num l1 i.toNat := ⟨_, rfl⟩
          have hclen : cur.length = l1.length := by rw [hcu, renT_len]
          rw [← hcu] at hR12 hcur
          obtain ⟨gP, clP, rfl, hgP1, _⟩ := form_ hR12 (by omega)
          have hst : ∀ (k : Nat) (wr : World), k < 3 → Below w.heap.size w wr → Blk wr w.heap.size 25 MS → Blk wr gz 25 #[.slice none 0 0, .slice none 0 0] → Blk wr gw 25 OS → Kd.R k45 45 wr w.heap.size (fun _ => True) (.slice B0 l0.length d0) R0 → Kd.R k57 57 wr w.heap.size (fun _ => True) (.slice (some ⟨gP, 0, none⟩) l1.length d1) (cur.set i.toNat (renK num q k)) →
              (∃ u, wr.cell? ⟨gP, i.toNat * 3 + k, none⟩ = some u) ∧ wr.frozen? ⟨gP, i.toNat * 3 + k, none⟩ = false ∧ ∀ nv : Int, nv = num.getD (if k = 0 then q.f0 else if k = 1 then q.f1 else q.f2).toNat 0 → (Below w.heap.size w (wr.setCell ⟨gP, i.toNat * 3 + k, none⟩ (.int .i64 nv)) ∧ Blk (wr.setCell ⟨gP, i.toNat * 3 + k, none⟩ (.int .i64 nv)) w.heap.size 25 MS ∧ Blk (wr.setCell ⟨gP, i.toNat * 3 + k, none⟩ (.int .i64 nv)) gz 25 #[.slice none 0 0, .slice none 0 0] ∧ Blk (wr.setCell ⟨gP, i.toNat * 3 + k, none⟩ (.int .i64 nv)) gw 25 OS ∧ Kd.R k45 45 (wr.setCell ⟨gP, i.toNat * 3 + k, none⟩ (.int .i64 nv)) w.heap.size (fun _ => True) (.slice B0 l0.length d0) R0 ∧ Kd.R k57 57 (wr.setCell ⟨gP, i.toNat * 3 + k, none⟩ (.int .i64 nv)) w.heap.size (fun _ => True) (.slice (some ⟨gP, 0, none⟩) l1.length d1) (cur.set i.toNat (renK num q (k + 1)))) := by
            intro k v hk hB hm hz ho hR0 hR1
            obtain ⟨cc, fr, ⟨cls, hb⟩, _⟩ := cells57 hR1 i.toNat (by simp; omega)
            have hg : (cur.set i.toNat (renK num q k)).getD i.toNat z57 = renK num q k := by
              rw [List.getD_eq_getElem?_getD, List.getElem?_set_self (by omega)]; rfl
            rw [hg] at cc
            have e1 := (hb.ne_ hm (by decide)).symm
            have e2 := (hb.ne_ hz (by decide)).symm
            have e3 := (hb.ne_ ho (by decide)).symm
            refine ⟨?_, fr _, fun nv hnv => ⟨hB.setCell (p := ⟨gP, i.toNat * 3 + k, none⟩) hgP1 _, hm.far (p := ⟨gP, i.toNat * 3 + k, none⟩) e1 _, hz.far (p := ⟨gP, i.toNat * 3 + k, none⟩) e2 _, ho.far (p := ⟨gP, i.toNat * 3 + k, none⟩) e3 _, Kd.R_set hR0 hb (by decide) _ _, ?_⟩⟩
            · obtain rfl | rfl | rfl : k = 0 ∨ k = 1 ∨ k = 2 := by omega
              · exact ⟨_, cc 0 _ rfl⟩
              · exact ⟨_, cc 1 _ rfl⟩
              · exact ⟨_, cc 2 _ rfl⟩
            · have hsg := (Kd.R_seg (d := k57) (seg := [.int .i64 nv]) (j := k) (x' := renK num q (k + 1)) (okp := fun _ => False) hR1 (i : Int) (by omega) (by omega) rfl cc (show k + 1 ≤ 3 by omega) (by
                have := k57_mkM (v) w.heap.size (fun _ => False) (renK num q (k + 1))
                obtain rfl | rfl | rfl : k = 0 ∨ k = 1 ∨ k = 2 := by omega
                · subst hnv; exact this
                · subst hnv; exact this
                · subst hnv; exact this) (fun _ hk => hk.elim)).1
              rw [List.set_set] at hsg
              exact hsg
          replace hst := Lib.hid hst
          have hstart : cur = cur.set i.toNat (renK num q 0) := by
            rw [show renK num q 0 = q from rfl, ← hcur, List.getD_eq_getElem?_getD, List.getElem?_eq_getElem (by omega)]
            simp
          rw [hstart] at hR12
          go_loopw [40] (fun v40 wr => ∃ k : Int, v40 = .int .i64 k ∧ 0 ≤ k ∧ k ≤ 3 ∧ Below w.heap.size w wr ∧ Blk wr w.heap.size 25 MS ∧ Blk wr gz 25 #[.slice none 0 0, .slice none 0 0] ∧ Blk wr gw 25 OS ∧ Kd.R k45 45 wr w.heap.size (fun _ => True) (.slice B0 l0.length d0) R0 ∧ Kd.R k57 57 wr w.heap.size (fun _ => True) (.slice (some ⟨gP, 0, none⟩) l1.length d1) (cur.set i.toNat (renK num q k.toNat))) (fun v40 _ => 3 - (intOf v40).toNat)
          case atStart => exact ⟨0, rfl, by omega, by omega, hB2, hm2, hz2, ho2, hR02, hR12⟩
          case round =>
            clear hB2 hm2 hz2 ho2 hR02 hR12
            obtain ⟨k, rfl, hk0, hk1, hB, hm, hz, ho, hR0, hR1⟩ := hrel
            have ix0 := idx57_0_r
            have ix1 := idx57_1_r
            have ix2 := idx57_2_r
            by_cases hk : k < 3
            · have dk : decide (k < 3) = true := decide_eq_true hk
              obtain rfl | rfl | rfl : k = 0 ∨ k = 1 ∨ k = 2 := by omega
              · have hv := hq.1
                have hin := HIN.out q.f0.toNat (by rw [HN.out]; omega)
                obtain ⟨ad2, e2, n0⟩ := Kd.at_int (Kd.C_below HR2.out hB.drew) q.f0 hv.1 (by rw [HN.out]; exact hv.2)
                cases e2
                have hrd : rd num q.f0 = num.getD q.f0.toNat 0 := rfl
                rw [hrd] at n0
                obtain ⟨⟨u, s1⟩, s2, s3⟩ := hst.out 0 wr.drew (by omega) hB.drew hm.drew hz.drew ho.drew (Kd.R_drew hR0) (Kd.R_drew hR1)
                have s4 := s3 (num.getD q.f0.toNat 0) rfl
                have r1 := (hOS0.out wr.drew ho.drew).2
                have s1w : wr.cell? ⟨gP, i.toNat * 3, none⟩ = some u := s1
                have s2w : wr.frozen? ⟨gP, i.toNat * 3, none⟩ = false := s2
                have hi2 : q.f0 < (num.length : Int) := by rw [HN.out]; exact hv.2
                have p3 := eq_true hi2
                have p4 := eq_true hv.1
                replace s4 := Lib.hid s4
                generalize num.getD q.f0.toNat 0 = nv at *
                clear hB hm hz ho hR0 hR1 s3 hrd
                go_wp2_with fail
                go_region
                go_wp2_with fail
                go_roundw
                case rel => exact ⟨1, by go_num, by omega, by omega, s4.out⟩
                case measure => simp [intOf]
              · have hv := hq.2.1
                have hin := HIN.out q.f1.toNat (by rw [HN.out]; omega)
                obtain ⟨ad2, e2, n0⟩ := Kd.at_int (Kd.C_below HR2.out hB.drew) q.f1 hv.1 (by rw [HN.out]; exact hv.2)
                cases e2
                have hrd : rd num q.f1 = num.getD q.f1.toNat 0 := rfl
                rw [hrd] at n0
                obtain ⟨⟨u, s1⟩, s2, s3⟩ := hst.out 1 wr.drew (by omega) hB.drew hm.drew hz.drew ho.drew (Kd.R_drew hR0) (Kd.R_drew hR1)
                have s4 := s3 (num.getD q.f1.toNat 0) rfl
                have r1 := (hOS0.out wr.drew ho.drew).2
                have s1w : wr.cell? ⟨gP, i.toNat * 3 + 1, none⟩ = some u := s1
                have s2w : wr.frozen? ⟨gP, i.toNat * 3 + 1, none⟩ = false := s2
                have hi2 : q.f1 < (num.length : Int) := by rw [HN.out]; exact hv.2
                have p3 := eq_true hi2
                have p4 := eq_true hv.1
                replace s4 := Lib.hid s4
                generalize num.getD q.f1.toNat 0 = nv at *
                clear hB hm hz ho hR0 hR1 s3 hrd
                go_wp2_with fail
                go_region
                go_wp2_with fail
                go_roundw
                case rel => exact ⟨2, by go_num, by omega, by omega, s4.out⟩
                case measure => simp [intOf]
              · have hv := hq.2.2
                have hin := HIN.out q.f2.toNat (by rw [HN.out]; omega)
                obtain ⟨ad2, e2, n0⟩ := Kd.at_int (Kd.C_below HR2.out hB.drew) q.f2 hv.1 (by rw [HN.out]; exact hv.2)
                cases e2
                have hrd : rd num q.f2 = num.getD q.f2.toNat 0 := rfl
                rw [hrd] at n0
                obtain ⟨⟨u, s1⟩, s2, s3⟩ := hst.out 2 wr.drew (by omega) hB.drew hm.drew hz.drew ho.drew (Kd.R_drew hR0) (Kd.R_drew hR1)
                have s4 := s3 (num.getD q.f2.toNat 0) rfl
                have r1 := (hOS0.out wr.drew ho.drew).2
                have s1w : wr.cell? ⟨gP, i.toNat * 3 + 2, none⟩ = some u := s1
                have s2w : wr.frozen? ⟨gP, i.toNat * 3 + 2, none⟩ = false := s2
                have hi2 : q.f2 < (num.length : Int) := by rw [HN.out]; exact hv.2
                have p3 := eq_true hi2
                have p4 := eq_true hv.1
                replace s4 := Lib.hid s4
                generalize num.getD q.f2.toNat 0 = nv at *
                clear hB hm hz ho hR0 hR1 s3 hrd
                go_wp2_with fail
                go_region
                go_wp2_with fail
                go_roundw
                case rel => exact ⟨3, by go_num, by omega, by omega, s4.out⟩
                case measure => simp [intOf]
            · have dk : decide (k < 3) = false := decide_eq_false hk
              obtain rfl : k = 3 := by omega
              go_wp2_with fail
              go_roundw
              case rel =>
                have := HL1.out
                refine ⟨i + 1, by rw [w64 (by omega) (by omega)], by omega, by omega, hB, hm, hz, ho, hR0, ?_⟩
                rw [show (i + 1).toNat = i.toNat + 1 by omega, renT, hq1.out, ← hcu]
                exact hR1
              case measure =>
                have := HL1.out
                simp [intOf, w64 (show -9223372036854775808 ≤ i + 1 by omega) (by omega)]; omega
        · have dl : decide (i < (l1.length : Int)) = false := decide_eq_false hlt
          have hin : i.toNat = l1.length := by omega
          rw [hin] at hR1
          obtain ⟨r0, r1⟩ := hOS0.out wr ho
          have z0 : wr.cell? ⟨gz, 0, none⟩ = some (.slice none 0 0) := hz.cell 0
          have z1 : wr.cell? ⟨gz, 1, none⟩ = some (.slice none 0 0) := hz.cell 1
          have zf0 : wr.frozen? ⟨gz, 0, none⟩ = false := hz.frozen 0
          have zf1 : wr.frozen? ⟨gz, 1, none⟩ = false := hz.frozen 1
          have hz7 := hz.set_ 0 (.slice B0 l0.length d0)
          have q0 := Kd.R_set (Kd.R_set hR0 hz (by decide) 0 (.slice B0 l0.length d0)) hz7 (by decide) 1 (.slice B1 l1.length d1)
          have q1 := Kd.R_set (Kd.R_set hR1 hz (by decide) 0 (.slice B0 l0.length d0)) hz7 (by decide) 1 (.slice B1 l1.length d1)
          have hB8 := (hB.setCell (p := ⟨gz, 0, none⟩) (by show w.heap.size ≤ gz; omega) (.slice B0 l0.length d0)).setCell (p := ⟨gz, 1, none⟩) (by show w.heap.size ≤ gz; omega) (.slice B1 l1.length d1)
          have y0 : ((wr.setCell ⟨gz, 0, none⟩ (.slice B0 l0.length d0)).setCell ⟨gz, 1, none⟩ (.slice B1 l1.length d1)).cell? ⟨gz, 0, none⟩ = some (.slice B0 l0.length d0) := (hz7.set_ 1 (.slice B1 l1.length d1)).cell 0
          have y1 : ((wr.setCell ⟨gz, 0, none⟩ (.slice B0 l0.length d0)).setCell ⟨gz, 1, none⟩ (.slice B1 l1.length d1)).cell? ⟨gz, 1, none⟩ = some (.slice B1 l1.length d1) := (hz7.set_ 1 (.slice B1 l1.length d1)).cell 1
          rw [hR0d.out] at q0
          clear hz hz7 hm ho hR0 hR1
          subst hgz
          go_wp2
          refine bodyPost_ret (v := .agg #[.slice B0 l0.length d0, .slice B1 l1.length d1]) (by rw [results, show Tryd.f29.results = #[.cell 4 25] from rfl]; go_simp) rfl ?_
          exact ⟨_, _, rfl, q0, q1, hB8⟩
end Go.Proofs.YtbdpfmpbooikiaaDoor.MD
namespace Go.Proofs.YtbdpfmpbooikiaaDoor.PIsr
open Go Go.RowKit Go.Proofs.YtbdpfmpbooikiaaDoorW.PrintWords
def renOk (l0 : List S45) (l1 : List S57) (num : List Int) : Prop := l0.length ≤ 1000000 ∧ l1.length ≤ 1000000 ∧ num.length = l0.length ∧ (∀ v ∈ num, 0 ≤ v ∧ v < (l0.length : Int)) ∧ ∀ q ∈ l1, (0 ≤ q.f0 ∧ q.f0 < (l0.length : Int)) ∧ (0 ≤ q.f1 ∧ q.f1 < (l0.length : Int)) ∧ (0 ≤ q.f2 ∧ q.f2 < (l0.length : Int))
instance (l0 : List S45) (l1 : List S57) (num : List Int) : Decidable (renOk l0 l1 num) := by unfold renOk; infer_instance
def iso_renamed.f (l0_0 : List (S45)) (l0_1 : List (S57)) (l1 : List Int) : Option ((List (S45)) × (List (S57))) := if renOk l0_0 l0_1 l1 then some (MD.renP l1 l0_0 l0_0.length, MD.renT l1 l0_1 l0_1.length) else none
theorem iso_renamed.calls (A0_0 : Option Addr) (c0_0 : Nat) (l0_0 : List (S45)) (A0_1 : Option Addr) (c0_1 : Nat) (l0_1 : List (S57)) (A1 : Option Addr) (c1 : Nat) (l1 : List Int) (r1 : List (S45)) (r2 : List (S57)) (w : World) (hr0_0 : Kd.C k45 w A0_0 l0_0.length l0_0) (hc0_0 : l0_0.length ≤ c0_0) (hr0_1 : Kd.C k57 w A0_1 l0_1.length l0_1) (hc0_1 : l0_1.length ≤ c0_1) (hr1 : Kd.C (Kd.int .i64) w A1 l1.length l1) (hc1 : l1.length ≤ c1) (h : iso_renamed.f l0_0 l0_1 l1 = some (r1, r2)) :
    Calls Tryd.prog 29 #[.agg #[.slice A0_0 l0_0.length c0_0, .slice A0_1 l0_1.length c0_1], .slice A1 l1.length c1] w fun e w' => ∃ v0_ v1_ : Value, e = .returned (.agg #[v0_, v1_]) ∧ Kd.R k45 45 w' w.heap.size (fun _ => True) v0_ r1 ∧ Kd.R k57 57 w' w.heap.size (fun _ => True) v1_ r2 ∧ Below w.heap.size w w' := by
  unfold iso_renamed.f at h
  by_cases ho : renOk l0_0 l0_1 l1
  · rw [if_pos ho] at h
    injection h with h
    injection h with h1 h2
    subst h1
    subst h2
    obtain ⟨o1, o2, o3, o4, o5⟩ := ho
    refine MD.renamed29 w A0_0 A0_1 A1 l0_0 l0_1 l1 c0_0 c0_1 c1 hr0_0 hc0_0 hr0_1 hc0_1 hr1 hc1 o1 o2 o3 (fun i hi => ?_) o5
    refine o4 _ ?_
    rw [List.getD_eq_getElem?_getD, List.getElem?_eq_getElem hi]
    exact List.getElem_mem hi
  · rw [if_neg ho] at h
    cases h
end Go.Proofs.YtbdpfmpbooikiaaDoor.PIsr
