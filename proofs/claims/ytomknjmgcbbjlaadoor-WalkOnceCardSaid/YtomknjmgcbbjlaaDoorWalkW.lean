import Derived.Test.YtomknjmgcbbjlaaDoorMeshTable
import Derived.Test.YtomknjmgcbbjlaaDoorWalkP
namespace Go.Proofs.YtomknjmgcbbjlaaDoor.WW
open Go Go.RowKit Go.Maps Go.WideMaps Go.Proofs.YtomknjmgcbbjlaaDoor.Mem Go.Proofs.YtomknjmgcbbjlaaDoor.PWlk Go.Proofs.YtomknjmgcbbjlaaDoorW.PrintWords Go.Proofs.YtomknjmgcbbjlaaDoorW.PrintLast Go.Proofs.YtomknjmgcbbjlaaDoorW.PrintMore
open Go.Proofs.YtomknjmgcbbjlaaDoor.MM (datE edgesU lawE zeroE kE kE_key wfE)
open Go.Proofs.YtomknjmgcbbjlaaDoor.WP (Wk fnd add)
set_option linter.unusedVariables false
set_option linter.unnecessarySimpa false
set_option linter.unusedSimpArgs false
set_option maxRecDepth 100000
def to47 (t : Int × Int × Int) : S47 := ⟨t.1, t.2.1, t.2.2⟩
def to107 (e : Int × Int) : S107 := ⟨e.1, e.2⟩
def to62 (e : Int × Int) : S62 := ⟨e.1, e.2⟩
def metL (O : List Nat) (n : Nat) : List Bool := (List.range n).map fun i => decide (i ∈ O)
def numL (V : List Int) (n : Nat) : List Int := (List.range n).map fun v : Nat => fnd V (v : Int) + 1
theorem metL_len (O : List Nat) (n : Nat) : (metL O n).length = n := by simp [metL]
theorem numL_len (V : List Int) (n : Nat) : (numL V n).length = n := by simp [numL]
theorem numL_at {V : List Int} {n : Nat} {v : Int} (h0 : 0 ≤ v) (h1 : v < n) : rdOf 0 (numL V n) v = fnd V v + 1 := by
  unfold rdOf numL
  rw [List.getD_eq_getElem?_getD, List.getElem?_map, List.getElem?_range (by omega)]
  show fnd V ((v.toNat : Nat) : Int) + 1 = _
  rw [show ((v.toNat : Nat) : Int) = v by omega]
theorem metL_at {O : List Nat} {n i : Nat} (h1 : i < n) : rdOf false (metL O n) (i : Int) = decide (i ∈ O) := by
  unfold rdOf metL
  rw [List.getD_eq_getElem?_getD, List.getElem?_map, Int.toNat_natCast, List.getElem?_range h1]
  rfl
theorem numL_set {V : List Int} {n : Nat} {v : Int} (h0 : 0 ≤ v) (h1 : v < n) (hv : v ∉ V) : (numL V n).set v.toNat (V.length + 1 : Nat) = numL (V ++ [v]) n := by
  refine List.ext_getElem (by simp [numL]) fun k h2 h3 => ?_
  rw [List.getElem_set]
  have hk : k < n := by simpa [numL] using h3
  have h4 : (numL (V ++ [v]) n)[k] = fnd (V ++ [v]) (k : Int) + 1 := by simp [numL]
  rw [h4]
  by_cases e : v.toNat = k
  · rw [if_pos e]
    have : (k : Int) = v := by omega
    rw [this]
    unfold fnd
    rw [if_pos (by simp), List.idxOf_append, if_neg hv]
    simp
  · rw [if_neg e]
    have h5 : (numL V n)[k]'(by simpa [numL] using hk) = fnd V (k : Int) + 1 := by simp [numL]
    rw [h5]
    congr 1
    have hne : (k : Int) ≠ v := by omega
    unfold fnd
    by_cases hm : (k : Int) ∈ V
    · rw [if_pos hm, if_pos (List.mem_append_left _ hm), List.idxOf_append, if_pos hm]
    · rw [if_neg hm, if_neg (by simp [hm, hne])]
theorem metL_set {O : List Nat} {n i : Nat} (h1 : i < n) : (metL O n).set i true = metL (O ++ [i]) n := by
  refine List.ext_getElem (by simp [metL]) fun k h2 h3 => ?_
  rw [List.getElem_set]
  have hk : k < n := by simpa [metL] using h3
  have h4 : (metL (O ++ [i]) n)[k] = decide (k ∈ O ++ [i]) := by simp [metL]
  rw [h4]
  by_cases e : i = k
  · rw [if_pos e, e]; simp
  · rw [if_neg e]
    have h5 : (metL O n)[k]'(by simpa [metL] using hk) = decide (k ∈ O) := by simp [metL]
    rw [h5, decide_eq_decide]
    simp
    omega
structure St (sk : List Nat) (tg : Nat → Nat) (w : World) (base b : Nat) (A0 : Option Addr) (c0 : Nat) (A1 : Option Addr) (c1 : Nat) (P : List S46) (T : List S47) (e : Nat) (vm vn vv vo vt vg vs : Value) (s : Wk) : Prop where
  blk : Blk w b 96 #[.slice A0 P.length c0, .slice A1 T.length c1, .map (some e), vm, vn, vv, vo, vt, vg, vs]
  bb : base ≤ b
  be : base ≤ e
  map : w.ownsMap Tryd.prog 107 (plainElem Tryd.prog 3) e (3 * T.length) (datE (edgesU T T.length))
  met : 2 ∉ sk → Kd.R Kd.bool 4 w base (fun k => tg k = 2) vm (metL s.O T.length)
  num : 3 ∉ sk → Kd.R (Kd.int .i64) 3 w base (fun k => tg k = 3) vn (numL s.V P.length)
  verts : 4 ∉ sk → Kd.R (Kd.int .i64) 3 w base (fun k => tg k = 4) vv s.V
  order : 5 ∉ sk → Kd.R (Kd.int .i64) 3 w base (fun k => tg k = 5) vo (s.O.map fun i : Nat => (i : Int))
  tris : 6 ∉ sk → Kd.R k47 47 w base (fun k => tg k = 6) vt (s.T.map to47)
  gates : 7 ∉ sk → Kd.R k107 107 w base (fun k => tg k = 7) vg (s.G.reverse.map to107)
  steps : 8 ∉ sk → Kd.R k62 62 w base (fun k => tg k = 8) vs (s.S.map to62)
section
variable {sk : List Nat} {tg : Nat → Nat} {w w1 w' : World} {base b : Nat} {A0 : Option Addr} {c0 : Nat} {A1 : Option Addr} {c1 : Nat} {P : List S46} {T : List S47} {e : Nat} {vm vn vv vo vt vg vs : Value} {s : Wk}
theorem R_retag {α : Type} {d : Kd α} {t : Nat} {v : Value} {xs : List α} {j : Nat} (h : d.R t w base (fun k => tg k = j) v xs) (i : Nat) : d.R t w base (fun k => (if w.heap.size ≤ k then i else tg k) = j) v xs :=
  Kd.R_mono (Kd.R_bound h) fun k hk => by
    obtain ⟨h1, _, h2, _⟩ := hk
    rw [if_neg (by omega)]
    exact h1
theorem St.retag (h : St sk tg w base b A0 c0 A1 c1 P T e vm vn vv vo vt vg vs s) (i : Nat) : St sk (fun k => if w.heap.size ≤ k then i else tg k) w base b A0 c0 A1 c1 P T e vm vn vv vo vt vg vs s :=
  ⟨h.blk, h.bb, h.be, h.map, fun hs => R_retag (h.met hs) i, fun hs => R_retag (h.num hs) i, fun hs => R_retag (h.verts hs) i, fun hs => R_retag (h.order hs) i, fun hs => R_retag (h.tris hs) i, fun hs => R_retag (h.gates hs) i, fun hs => R_retag (h.steps hs) i⟩
theorem St.skip (h : St sk tg w base b A0 c0 A1 c1 P T e vm vn vv vo vt vg vs s) {sk' : List Nat} (hs' : ∀ j, j ∈ sk → j ∈ sk') : St sk' tg w base b A0 c0 A1 c1 P T e vm vn vv vo vt vg vs s :=
  ⟨h.blk, h.bb, h.be, h.map, fun hs => h.met fun x => hs (hs' _ x), fun hs => h.num fun x => hs (hs' _ x), fun hs => h.verts fun x => hs (hs' _ x), fun hs => h.order fun x => hs (hs' _ x), fun hs => h.tris fun x => hs (hs' _ x), fun hs => h.gates fun x => hs (hs' _ x), fun hs => h.steps fun x => hs (hs' _ x)⟩
theorem St.drewN (h : St sk tg w base b A0 c0 A1 c1 P T e vm vn vv vo vt vg vs s) (n : Nat) : St sk tg (w.drewN n) base b A0 c0 A1 c1 P T e vm vn vv vo vt vg vs s :=
  ⟨h.blk, h.bb, h.be, h.map, fun hs => Kd.R_drewN (h.met hs) n, fun hs => Kd.R_drewN (h.num hs) n, fun hs => Kd.R_drewN (h.verts hs) n, fun hs => Kd.R_drewN (h.order hs) n, fun hs => Kd.R_drewN (h.tris hs) n, fun hs => Kd.R_drewN (h.gates hs) n, fun hs => Kd.R_drewN (h.steps hs) n⟩
theorem St.drew (h : St sk tg w base b A0 c0 A1 c1 P T e vm vn vv vo vt vg vs s) : St sk tg w.drew base b A0 c0 A1 c1 P T e vm vn vv vo vt vg vs s :=
  ⟨h.blk, h.bb, h.be, h.map, fun hs => Kd.R_drew (h.met hs), fun hs => Kd.R_drew (h.num hs), fun hs => Kd.R_drew (h.verts hs), fun hs => Kd.R_drew (h.order hs), fun hs => Kd.R_drew (h.tris hs), fun hs => Kd.R_drew (h.gates hs), fun hs => Kd.R_drew (h.steps hs)⟩
theorem St.alloc (h : St sk tg w base b A0 c0 A1 c1 P T e vm vn vv vo vt vg vs s) (o : Obj) : St sk tg (w.alloc o) base b A0 c0 A1 c1 P T e vm vn vv vo vt vg vs s :=
  ⟨h.blk.alloc o, h.bb, h.be, h.map.alloc o, fun hs => Kd.R_alloc (h.met hs) o, fun hs => Kd.R_alloc (h.num hs) o, fun hs => Kd.R_alloc (h.verts hs) o, fun hs => Kd.R_alloc (h.order hs) o, fun hs => Kd.R_alloc (h.tris hs) o, fun hs => Kd.R_alloc (h.gates hs) o, fun hs => Kd.R_alloc (h.steps hs) o⟩
theorem St.grown (h : St sk tg w base b A0 c0 A1 c1 P T e vm vn vv vo vt vg vs s) {row : Option Nat} {j : Nat} (hg : w.grownBy w1 row) (hrow : ∀ k, row = some k → tg k = j) (hj : j ∈ sk) (hb : some b ≠ row) (he : some e ≠ row) : St sk tg w1 base b A0 c0 A1 c1 P T e vm vn vv vo vt vg vs s :=
  ⟨h.blk.grown hg hb, h.bb, h.be, h.map.kept hg he, fun hs => Kd.R_grown (h.met hs) hg fun k hk e => by have := hrow k e.symm; exact hs (by rw [← hk, this]; exact hj), fun hs => Kd.R_grown (h.num hs) hg fun k hk e => by have := hrow k e.symm; exact hs (by rw [← hk, this]; exact hj), fun hs => Kd.R_grown (h.verts hs) hg fun k hk e => by have := hrow k e.symm; exact hs (by rw [← hk, this]; exact hj), fun hs => Kd.R_grown (h.order hs) hg fun k hk e => by have := hrow k e.symm; exact hs (by rw [← hk, this]; exact hj), fun hs => Kd.R_grown (h.tris hs) hg fun k hk e => by have := hrow k e.symm; exact hs (by rw [← hk, this]; exact hj), fun hs => Kd.R_grown (h.gates hs) hg fun k hk e => by have := hrow k e.symm; exact hs (by rw [← hk, this]; exact hj), fun hs => Kd.R_grown (h.steps hs) hg fun k hk e => by have := hrow k e.symm; exact hs (by rw [← hk, this]; exact hj)⟩
theorem St.ne_map (h : St sk tg w base b A0 c0 A1 c1 P T e vm vn vv vo vt vg vs s) {g t : Nat} {cs : Array Value} (hb : w.heap[g]? = some (.cells cs t (0, 0))) : e ≠ g := by
  rintro rfl
  obtain ⟨es, clock, hm, _⟩ := h.map
  rw [hm] at hb
  cases hb
theorem St.far (h : St sk tg w base b A0 c0 A1 c1 P T e vm vn vv vo vt vg vs s) {g t : Nat} {cs : Array Value} (hgb : w.heap[g]? = some (.cells cs t (0, 0))) (hgt : t ≠ 96) (hg : tg g ∈ sk) (i : Nat) (u : Value) : St sk tg (w.setCell ⟨g, i, none⟩ u) base b A0 c0 A1 c1 P T e vm vn vv vo vt vg vs s :=
  have hbg : b ≠ g := h.blk.ne_ (t' := t) hgb (fun e => hgt e.symm)
  have heg := h.ne_map hgb
  ⟨h.blk.far hbg u, h.bb, h.be, h.map.kept (row := some g) ⟨rfl, rfl, rfl, by simp [World.setCell], fun k hk hr => Below.heap_setCell w ⟨g, i, none⟩ u k (fun e => hr (by rw [e]))⟩ (fun e => heg (Option.some.inj e)), fun hs => Kd.R_far (p := ⟨g, i, none⟩) (h.met hs) (fun k hk e => hs (by rw [← hk, e]; exact hg)) u, fun hs => Kd.R_far (p := ⟨g, i, none⟩) (h.num hs) (fun k hk e => hs (by rw [← hk, e]; exact hg)) u, fun hs => Kd.R_far (p := ⟨g, i, none⟩) (h.verts hs) (fun k hk e => hs (by rw [← hk, e]; exact hg)) u, fun hs => Kd.R_far (p := ⟨g, i, none⟩) (h.order hs) (fun k hk e => hs (by rw [← hk, e]; exact hg)) u, fun hs => Kd.R_far (p := ⟨g, i, none⟩) (h.tris hs) (fun k hk e => hs (by rw [← hk, e]; exact hg)) u, fun hs => Kd.R_far (p := ⟨g, i, none⟩) (h.gates hs) (fun k hk e => hs (by rw [← hk, e]; exact hg)) u, fun hs => Kd.R_far (p := ⟨g, i, none⟩) (h.steps hs) (fun k hk e => hs (by rw [← hk, e]; exact hg)) u⟩
theorem St.put4 (h : St sk tg w base b A0 c0 A1 c1 P T e vm vn vv vo vt vg vs s) (hj : 4 ∈ sk) (u : Value) : St sk tg (w.setCell ⟨b, 5, none⟩ u) base b A0 c0 A1 c1 P T e vm vn u vo vt vg vs s :=
  ⟨h.blk.set_ 5 u, h.bb, h.be, h.map.kept (row := some b) ⟨rfl, rfl, rfl, by simp [World.setCell], fun k hk hr => Below.heap_setCell w ⟨b, 5, none⟩ u k (fun e => hr (by rw [e]))⟩ (fun e => h.ne_map h.blk (Option.some.inj e)), fun hs => Kd.R_set (h.met hs) h.blk (by decide) 5 u, fun hs => Kd.R_set (h.num hs) h.blk (by decide) 5 u, fun hs => absurd hj hs, fun hs => Kd.R_set (h.order hs) h.blk (by decide) 5 u, fun hs => Kd.R_set (h.tris hs) h.blk (by decide) 5 u, fun hs => Kd.R_set (h.gates hs) h.blk (by decide) 5 u, fun hs => Kd.R_set (h.steps hs) h.blk (by decide) 5 u⟩
theorem St.put5 (h : St sk tg w base b A0 c0 A1 c1 P T e vm vn vv vo vt vg vs s) (hj : 5 ∈ sk) (u : Value) : St sk tg (w.setCell ⟨b, 6, none⟩ u) base b A0 c0 A1 c1 P T e vm vn vv u vt vg vs s :=
  ⟨h.blk.set_ 6 u, h.bb, h.be, h.map.kept (row := some b) ⟨rfl, rfl, rfl, by simp [World.setCell], fun k hk hr => Below.heap_setCell w ⟨b, 6, none⟩ u k (fun e => hr (by rw [e]))⟩ (fun e => h.ne_map h.blk (Option.some.inj e)), fun hs => Kd.R_set (h.met hs) h.blk (by decide) 6 u, fun hs => Kd.R_set (h.num hs) h.blk (by decide) 6 u, fun hs => Kd.R_set (h.verts hs) h.blk (by decide) 6 u, fun hs => absurd hj hs, fun hs => Kd.R_set (h.tris hs) h.blk (by decide) 6 u, fun hs => Kd.R_set (h.gates hs) h.blk (by decide) 6 u, fun hs => Kd.R_set (h.steps hs) h.blk (by decide) 6 u⟩
theorem St.put6 (h : St sk tg w base b A0 c0 A1 c1 P T e vm vn vv vo vt vg vs s) (hj : 6 ∈ sk) (u : Value) : St sk tg (w.setCell ⟨b, 7, none⟩ u) base b A0 c0 A1 c1 P T e vm vn vv vo u vg vs s :=
  ⟨h.blk.set_ 7 u, h.bb, h.be, h.map.kept (row := some b) ⟨rfl, rfl, rfl, by simp [World.setCell], fun k hk hr => Below.heap_setCell w ⟨b, 7, none⟩ u k (fun e => hr (by rw [e]))⟩ (fun e => h.ne_map h.blk (Option.some.inj e)), fun hs => Kd.R_set (h.met hs) h.blk (by decide) 7 u, fun hs => Kd.R_set (h.num hs) h.blk (by decide) 7 u, fun hs => Kd.R_set (h.verts hs) h.blk (by decide) 7 u, fun hs => Kd.R_set (h.order hs) h.blk (by decide) 7 u, fun hs => absurd hj hs, fun hs => Kd.R_set (h.gates hs) h.blk (by decide) 7 u, fun hs => Kd.R_set (h.steps hs) h.blk (by decide) 7 u⟩
theorem St.put7 (h : St sk tg w base b A0 c0 A1 c1 P T e vm vn vv vo vt vg vs s) (hj : 7 ∈ sk) (u : Value) : St sk tg (w.setCell ⟨b, 8, none⟩ u) base b A0 c0 A1 c1 P T e vm vn vv vo vt u vs s :=
  ⟨h.blk.set_ 8 u, h.bb, h.be, h.map.kept (row := some b) ⟨rfl, rfl, rfl, by simp [World.setCell], fun k hk hr => Below.heap_setCell w ⟨b, 8, none⟩ u k (fun e => hr (by rw [e]))⟩ (fun e => h.ne_map h.blk (Option.some.inj e)), fun hs => Kd.R_set (h.met hs) h.blk (by decide) 8 u, fun hs => Kd.R_set (h.num hs) h.blk (by decide) 8 u, fun hs => Kd.R_set (h.verts hs) h.blk (by decide) 8 u, fun hs => Kd.R_set (h.order hs) h.blk (by decide) 8 u, fun hs => Kd.R_set (h.tris hs) h.blk (by decide) 8 u, fun hs => absurd hj hs, fun hs => Kd.R_set (h.steps hs) h.blk (by decide) 8 u⟩
theorem St.put8 (h : St sk tg w base b A0 c0 A1 c1 P T e vm vn vv vo vt vg vs s) (hj : 8 ∈ sk) (u : Value) : St sk tg (w.setCell ⟨b, 9, none⟩ u) base b A0 c0 A1 c1 P T e vm vn vv vo vt vg u s :=
  ⟨h.blk.set_ 9 u, h.bb, h.be, h.map.kept (row := some b) ⟨rfl, rfl, rfl, by simp [World.setCell], fun k hk hr => Below.heap_setCell w ⟨b, 9, none⟩ u k (fun e => hr (by rw [e]))⟩ (fun e => h.ne_map h.blk (Option.some.inj e)), fun hs => Kd.R_set (h.met hs) h.blk (by decide) 9 u, fun hs => Kd.R_set (h.num hs) h.blk (by decide) 9 u, fun hs => Kd.R_set (h.verts hs) h.blk (by decide) 9 u, fun hs => Kd.R_set (h.order hs) h.blk (by decide) 9 u, fun hs => Kd.R_set (h.tris hs) h.blk (by decide) 9 u, fun hs => Kd.R_set (h.gates hs) h.blk (by decide) 9 u, fun hs => absurd hj hs⟩
theorem St.lt (h : St sk tg w base b A0 c0 A1 c1 P T e vm vn vv vo vt vg vs s) : base < w.heap.size := by have := h.blk.lt; have := h.bb; omega
end
theorem info3 : (Tryd.prog.info? 3).map (fun i => (i.zero, i.size, i.bytes)) = some (some (.int .i64 0), (Kd.int .i64).sz, 8) := by kernel_rfl
theorem info47 : (Tryd.prog.info? 47).map (fun i => (i.zero, i.size, i.bytes)) = some (some (.agg #[.int .i64 0, .int .i64 0, .int .i64 0]), k47.sz, 24) := by kernel_rfl
theorem info107 : (Tryd.prog.info? 107).map (fun i => (i.zero, i.size, i.bytes)) = some (some (.agg #[.int .i64 0, .int .i64 0]), k107.sz, 16) := by kernel_rfl
theorem info62 : (Tryd.prog.info? 62).map (fun i => (i.zero, i.size, i.bytes)) = some (some (.agg #[.int .i64 0, .int .i64 0]), k62.sz, 16) := by kernel_rfl
end Go.Proofs.YtomknjmgcbbjlaaDoor.WW
