/- The walks of what all statements of the layer use: the examples, and a model counted behind symbols. -/
import Derived.Test.YtjegnmnojgglaaaModelRef
namespace Go.Proofs.Ytjegnmnojgglaaa.MW
open Go Go.RowKit Go.Proofs.Ytjegnmnojgglaaa.PMod Go.Proofs.YtjegnmnojgglaaaW.PrintWords Go.Proofs.YtjegnmnojgglaaaW.PrintLast Go.Proofs.YtjegnmnojgglaaaW.PrintMore
set_option linter.unusedVariables false
set_option linter.unusedSimpArgs false

theorem below_dN {B : Nat} {a w : World} (h : Below B a w) (n : Nat) : Below B a (w.drewN n) := ⟨h.os, h.tape, h.output, h.size, h.block⟩

theorem count_one (w : World) (bp bs : Nat) (cs : List Int) (n : Nat) (h : IsM w bp bs cs cs.sum) (hok : Ok n cs) (x : Int) (g : Nat) (hg : g < w.heap.size) (h1 : g ≠ bp) (h2 : g ≠ bs) (hc : w.cell? ⟨g, 0, none⟩ = some (.int .i64 x)) (h0 : 0 ≤ x) (hn : x < n) :
    Calls Try.prog 17 #[.pointer (some ⟨bp, 0, none⟩), .slice (some ⟨g, 0, none⟩) 1 1] w fun e w' => e = .returned (.int .i64 0) ∧ IsM w' bp bs (cntI cs x) (cntI cs x).sum ∧ Only w w' bp bs :=
  count_ok w bp bs cs n h hok (some ⟨g, 0, none⟩) [x] 1 (by simp [maxLen]) (fun i hi => by
    obtain rfl : i = 0 := by simpa using hi
    exact ⟨_, rfl, hg, h1, h2, hc⟩) (fun y hy => by
    rw [List.mem_singleton] at hy
    subst hy
    exact ⟨h0, hn⟩)

theorem alloc_cell0 (w : World) (v : Value) (t : TypeId) : (w.alloc (.cells #[v] t)).cell? ⟨w.heap.size, 0, none⟩ = some v := by
  exact (Blk.cell (g := w.heap.size) (t := t) (cs := #[v]) (heap_alloc_new w (.cells #[v] t)) 0)

theorem IsM.alloc {w : World} {bp bs : Nat} {cs : List Int} {tot : Int} (h : IsM w bp bs cs tot) (o : Obj) : IsM (w.alloc o) bp bs cs tot :=
  ⟨(Below.heap_alloc w o bp h.head.lt).trans h.head, (Below.heap_alloc w o bs h.row.lt).trans h.row⟩

theorem ones_ok (n : Nat) (h1 : 1 ≤ n) (h2 : n ≤ 256) : Ok n (List.replicate n 1) ∧ (List.replicate n (1 : Int)).sum = n := by
  have hs : (List.replicate n (1 : Int)).sum = n := by
    clear h1 h2
    induction n with
    | zero => rfl
    | succ n ih => rw [List.replicate_succ, List.sum_cons, ih]; omega
  refine ⟨⟨fun c hc => ?_, by omega, by simp, h2⟩, hs⟩
  rw [List.eq_of_mem_replicate hc]
  omega

theorem known_calls (w : World) : Calls Try.prog 10 #[] w fun e w' => e = .returned (.bool true) ∧ Below w.heap.size w w' := by
  go_enter Try.func10, Try.ntmps10
  go_wp2_with fail
  refine (new_ok _ 3 (by omega) (by omega)).mono ?_
  rintro e w1 ⟨bp, bs, rfl, hm, hp1, hp2, hb⟩
  have hok := ones_ok 3 (by omega) (by omega)
  have HM := Lib.hid hm
  have HB := Lib.hid hb
  have hb1 := hm.head.lt
  have hb2 := hm.row.lt
  clear hm hb
  go_wp2_with fail
  have hm1 : IsM w1 bp bs [1, 1, 1] ([1, 1, 1] : List Int).sum := HM.out
  have hok3 : Ok 3 [1, 1, 1] := hok.1
  refine (count_one _ bp bs [1, 1, 1] 3 (hm1.alloc _) hok3 1 w1.heap.size (by simp) (by omega) (by omega) (alloc_cell0 _ _ _) (by omega) (by omega)).mono ?_
  rintro e w2 ⟨rfl, hm2, ho2⟩
  have hm2' : IsM w2 bp bs [1, 33, 1] 35 := hm2
  have hok33 : Ok 3 [1, 33, 1] := (hok3.step (s := 1) (by omega)).2.2
  have HB2 : Hid (Below w.heap.size w w2) := Lib.hid ((HB.out.alloc HB.out.size _).trans (ho2.below hp1 hp2 (by have := HB.out.size; simp; omega)))
  have HM2 := Lib.hid hm2'
  have HO := Lib.hid hok33
  clear hm1 hok3 hm2 hm2' hok33 ho2 hok
  go_wp2_with fail
  refine (share_ok _ bp bs [1, 33, 1] 35 HM2.out HO.out.inv 2 (by simp)).mono ?_
  rintro e w3 ⟨rfl, m, rfl⟩
  have HM3 := Lib.hid (HM2.out.drewN m)
  go_wp2_with fail
  refine (find_ok _ bp bs [1, 33, 1] 35 HM3.out HO.out.inv 33 (by omega) (by omega) (by omega)).mono ?_
  rintro e w4 ⟨rfl, rfl⟩
  have e3 : findL [1, 33, 1] 0 33 = 1 := by decide
  have E3 := Lib.hid e3
  clear e3
  rw [E3.out]
  go_wp2_with (first
    | (go_at_call 15; refine (total_calls _ bp bs [1, 33, 1] 35 HM3.out).mono ?_; rintro e w5 ⟨rfl, rfl⟩)
    | (go_at_call 17; refine (count_nil _ none 0 0).mono ?_; rintro e w6 ⟨rfl, rfl⟩))
  go_ret
  exact ⟨rfl, below_dN HB2.out m⟩

/-- The symbols that came: by their rest. -/
def syms (n : Nat) (l : List Int) : List Int := l.map (· % (n : Int))
/-- The counts behind them. -/
def cur (n : Nat) (l : List Int) : List Int := (syms n l).foldl cntI (List.replicate n 1)

theorem syms_good (n : Nat) (h1 : 1 ≤ n) (l : List Int) : ∀ x ∈ syms n l, 0 ≤ x ∧ x < n := by
  intro x hx
  obtain ⟨y, _, rfl⟩ := List.mem_map.1 hx
  exact ⟨Int.emod_nonneg _ (by omega), Int.emod_lt_of_pos _ (by omega)⟩
theorem cur_ok (n : Nat) (h1 : 1 ≤ n) (h2 : n ≤ 256) (l : List Int) : Ok n (cur n l) := Ok.fold _ (ones_ok n h1 h2).1 (syms_good n h1 l)
theorem cur_succ (n : Nat) (l : List Int) (k : Nat) (hk : k < l.length) : cur n (l.take (k + 1)) = cntI (cur n (l.take k)) (l.getD k 0 % (n : Int)) := by
  have hg : l.getD k 0 = l[k] := by rw [List.getD_eq_getElem?_getD, List.getElem?_eq_getElem hk]; rfl
  unfold cur syms
  rw [List.take_succ_eq_append_getElem hk, List.map_append, List.foldl_append, hg]
  rfl

/-- A row of numbers that came in. -/
def RdU (w : World) (k : IntKind) (A : Option Addr) (xs : List Int) : Prop := ∀ i, i < xs.length → ∃ a, A = some a ∧ a.block < w.heap.size ∧ w.cell? (a.add i) = some (.int k (xs.getD i 0))
theorem RdU.below {w w' : World} {k : IntKind} {A : Option Addr} {xs : List Int} (h : RdU w k A xs) (hb : Below w.heap.size w w') : RdU w' k A xs := fun i hi => by
  obtain ⟨a, e, h1, h2⟩ := h i hi
  exact ⟨a, e, Nat.lt_of_lt_of_le h1 hb.size, by rw [← h2]; exact hb.cell (by rw [add_block]; exact h1)⟩

set_option maxHeartbeats 1000000 in
theorem counted_calls (w : World) (n : Nat) (h1 : 1 ≤ n) (h2 : n ≤ 256) (L : Option Addr) (l : List Int) (lc : Nat) (hl : l.length ≤ 900) (hr : RdU w .u16 L l) (hw : ∀ x ∈ l, 0 ≤ x ∧ x < 65536) :
    Calls Try.prog 11 #[.int .i64 n, .slice L l.length lc] w fun e w' => ∃ bp bs A c, e = .returned (.tuple #[.pointer (some ⟨bp, 0, none⟩), .slice A (cur n l).length c]) ∧ (cur n l).length ≤ c ∧ IsM w' bp bs (cur n l) (cur n l).sum ∧ RdI w' bp bs A (cur n l) ∧
      w.heap.size ≤ bp ∧ w.heap.size ≤ bs ∧ Below w.heap.size w w' := by
  have hones := ones_ok n h1 h2
  have HONES := Lib.hid hones
  have HR := Lib.hid hr
  have HW := Lib.hid hw
  obtain ⟨K0, hK0⟩ := rnew n h2
  have HK0 := Lib.hid (hK0 K0 (Nat.le_refl _))
  clear hones hr hw hK0
  go_enter Try.func11, Try.ntmps11
  go_wp2_with fail
  refine (new_ok _ n h1 h2).mono ?_
  rintro e w1 ⟨bp, bs, rfl, hm, hp1, hp2, hb⟩
  have HM := Lib.hid hm
  have HB := Lib.hid hb
  have hb1 := hm.head.lt
  have hb2 := hm.row.lt
  clear hm hb
  go_wp2_with fail
  refine (lapidaryref05_New.calls K0 _ _ _ HK0.out).mono ?_
  rintro e w2 ⟨v, rfl, hR, hb⟩
  obtain ⟨A, c, rfl⟩ := Kd.R_slice hR
  have hcap := (Kd.R_reads' hR).2.1
  have HRD : Hid (RdI w2 bp bs A (List.replicate n 1)) := Lib.hid (RdI.ofR hR hb1 hb2 (by simp; omega))
  have HM2 : Hid (IsM w2 bp bs (List.replicate n 1) (List.replicate n 1).sum) := Lib.hid (by rw [HONES.out.2]; exact HM.out.below hb)
  have HB2 : Hid (Below w.heap.size w w2) := Lib.hid (HB.out.trans (hb.mono HB.out.size))
  clear hR hb hb1 hb2 HM HB
  rw [List.length_replicate] at hcap
  simp only [List.length_replicate]
  go_wp2_with fail
  go_loopw [8, 9] (fun c i wr => ∃ (k : Nat) (A : Option Addr) (cap : Nat), k ≤ l.length ∧ i = .int .i64 k ∧ c = .slice A n cap ∧ n ≤ cap ∧ Hid (IsM wr bp bs (cur n (l.take k)) (cur n (l.take k)).sum) ∧ Hid (RdI wr bp bs A (cur n (l.take k))) ∧ Hid (Below w.heap.size w wr)) (fun _ i _ => l.length - (intOf i).toNat)
  case atStart => exact ⟨0, A, c, Nat.zero_le _, rfl, rfl, hcap, Lib.hid HM2.out, Lib.hid HRD.out, HB2⟩
  case round =>
    clear HM2 HRD HB2 hcap
    obtain ⟨k, A2, cap2, hk, rfl, rfl, hcap, hm, hrd, hb⟩ := hrel
    by_cases hlt : k < l.length
    · obtain ⟨a, rfl, ha, hcell⟩ := (HR.out.below (w' := wr) (by exact hb.out)) k hlt
      have hx := HW.out l[k] (List.getElem_mem hlt)
      have hg : l.getD k 0 = l[k] := by rw [List.getD_eq_getElem?_getD, List.getElem?_eq_getElem hlt]; rfl
      rw [← hg] at hx
      obtain ⟨hx0, hx1⟩ := hx
      have hok := cur_ok n h1 h2 (l.take k)
      have hsucc := cur_succ n l k hlt
      have hlen : (cur n (l.take k)).length = n := hok.2.2.1
      have hok' := cur_ok n h1 h2 (l.take (k + 1))
      have HSUCC := Lib.hid hsucc
      have HOK := Lib.hid hok
      have HOK' := Lib.hid hok'
      have HLEN := Lib.hid hlen
      clear hsucc hok hok' hg hlen
      generalize hgx : l.getD k 0 = x at *
      have HGX := Lib.hid hgx
      clear hgx
      have hy0 : 0 ≤ x % (n : Int) := Int.emod_nonneg _ (by omega)
      have hy1 : x % (n : Int) < n := Int.emod_lt_of_pos _ (by omega)
      have hbp := hm.out.head.lt
      have hbs := hm.out.row.lt
      have hn0 : ¬ (n : Int) = 0 := by omega
      go_wp2_with fail
      refine (count_one _ bp bs (cur n (l.take k)) n (hm.out.alloc _) HOK.out (x % (n : Int)) wr.heap.size (by simp) (by omega) (by omega) (alloc_cell0 _ _ _) hy0 hy1).mono ?_
      rintro e w3 ⟨rfl, hm3, ho3⟩
      have hb3 : Below wr.heap.size wr (wr.alloc (.cells #[.int .i64 (x % (n : Int))] 3)) := (Below.refl _ _).alloc (Nat.le_refl _) _
      have hrd3 : RdI w3 bp bs A2 (cur n (l.take k)) := (hrd.out.below hb3).only ho3
      have hB3 : Below w.heap.size w w3 := (hb.out.alloc hb.out.size _).trans (ho3.below hp1 hp2 (by have := hb.out.size; simp; omega))
      have hcell3 : w3.cell? (a.add k) = some (.int .u16 x) := by
        obtain ⟨a', e1, e2, e3⟩ := (HR.out.below hB3) k hlt
        injection e1 with e1
        subst e1
        rw [e3, HGX.out]
      have hbp3 := hm3.head.lt
      have hbs3 := hm3.row.lt
      obtain ⟨s, hs⟩ := Int.eq_ofNat_of_zero_le hy0
      have hs1 : s < n := by omega
      obtain ⟨K1, hK1⟩ := rcount HOK.out hs1
      have hK := hK1 K1 (Nat.le_refl _)
      rw [← hs] at hK
      have hcn : cnt (cur n (l.take k)) s = cur n (l.take (k + 1)) := by rw [HSUCC.out, hs]; rfl
      rw [hcn] at hK
      rw [← HSUCC.out] at hm3
      have HM3 := Lib.hid hm3
      have HRD3 := Lib.hid hrd3
      have HB3 := Lib.hid hB3
      have HK := Lib.hid hK
      have HS := Lib.hid hs
      clear hm3 hrd3 hB3 ho3 hb3 hm hrd hb hK hK1 hs hcn hcell hbp hbs
      go_wp2_with fail
      refine (calls_of_args (show _ = #[.slice A2 (cur n (l.take k)).length cap2, .int .i64 (x % (n : Int))] by rw [HLEN.out]) (lapidaryref05_Count.calls K1 A2 cap2 _ _ _ w3 HRD3.out.C (by rw [HLEN.out]; exact hcap) HK.out)).mono ?_
      rintro e w4 ⟨v, rfl, hR, hb4⟩
      obtain ⟨A4, c4, rfl⟩ := Kd.R_slice hR
      have hcap4 := (Kd.R_reads' hR).2.1
      have hlen4 : (cur n (l.take (k + 1))).length = n := HOK'.out.2.2.1
      have hrd4 := RdI.ofR hR hbp3 hbs3 (by omega)
      have hm4 := HM3.out.below hb4
      have hB4 := HB3.out.trans (hb4.mono HB3.out.size)
      rw [hlen4] at hcap4
      rw [hlen4]
      have HM4 := Lib.hid hm4
      have HRD4 := Lib.hid hrd4
      have HB4 := Lib.hid hB4
      clear hm4 hrd4 hB4 hR hb4 hlen4
      go_wp2_with fail
      go_roundw
      case rel => exact ⟨k + 1, A4, c4, by omega, by go_num, rfl, hcap4, HM4, HRD4, HB4⟩
      case measure => simp [intOf]; omega
    · obtain rfl : k = l.length := by omega
      go_wp2_with fail
      go_ret2
      have h1' := hm.out
      have h2' := hrd.out
      rw [List.take_length] at h1' h2'
      have hlen : (cur n l).length = n := (cur_ok n h1 h2 l).2.2.1
      exact ⟨bp, bs, A2, cap2, by rw [hlen]; rfl, by rw [hlen]; exact hcap, h1', h2', hp1, hp2, hb.out⟩
end Go.Proofs.Ytjegnmnojgglaaa.MW
