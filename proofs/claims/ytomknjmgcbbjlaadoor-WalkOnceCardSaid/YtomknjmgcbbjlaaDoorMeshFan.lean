import Derived.Test.YtomknjmgcbbjlaaDoorMeshTable
import Derived.Test.YtomknjmgcbbjlaaDoorFan
namespace Go.Proofs.YtomknjmgcbbjlaaDoor.MM
open Go Go.RowKit Go.Maps Go.WideMaps Go.Proofs.YtomknjmgcbbjlaaDoor.Mem Go.Proofs.YtomknjmgcbbjlaaDoor.PWlk Go.Proofs.YtomknjmgcbbjlaaDoorW.PrintWords Go.Proofs.YtomknjmgcbbjlaaDoorW.PrintLast Go.Proofs.YtomknjmgcbbjlaaDoorW.PrintMore
set_option linter.unusedVariables false
set_option maxRecDepth 100000
set_option linter.unusedSimpArgs false
def trT (q : S47) : Int × Int × Int := (q.f0, q.f1, q.f2)
def trs (l : List S47) (i : Nat) : Int × Int × Int := trT (l.getD i z47)
def inB (q : S47) : Prop := (0 ≤ q.f0 ∧ q.f0 < 4000) ∧ (0 ≤ q.f1 ∧ q.f1 < 4000) ∧ (0 ≤ q.f2 ∧ q.f2 < 4000)
theorem idx57_0_m (w : World) (a0 a1 a2 : Value) : (Instr.index 47 (.agg #[a0, a1, a2]) (.int .i64 0)).run Tryd.prog w = .ok a0 w := by first | rfl | kernel_rfl
theorem idx57_1_m (w : World) (a0 a1 a2 : Value) : (Instr.index 47 (.agg #[a0, a1, a2]) (.int .i64 1)).run Tryd.prog w = .ok a1 w := by first | rfl | kernel_rfl
theorem idx57_2_m (w : World) (a0 a1 a2 : Value) : (Instr.index 47 (.agg #[a0, a1, a2]) (.int .i64 2)).run Tryd.prog w = .ok a2 w := by first | rfl | kernel_rfl
theorem getD_mem {l : List S47} {i : Nat} (h : i < l.length) : l.getD i z47 ∈ l := by
  rw [List.getD_eq_getElem?_getD, List.getElem?_eq_getElem h]
  exact List.getElem_mem h
theorem after_f (l0 : List S46) (l1 : List S47) (i : Nat) (hi : i < l1.length) (hb : ∀ q ∈ l1, inB q) (a b : Int) (ha : 0 ≤ a ∧ a < 4000) (hb2 : 0 ≤ b ∧ b < 4000) :
    mesh_after.f l0 l1 i a b = some ((trs l1 i).1 + (trs l1 i).2.1 + (trs l1 i).2.2 - a - b) := by
  have h := hb _ (getD_mem hi)
  obtain ⟨⟨h1, h2⟩, ⟨h3, h4⟩, h5, h6⟩ := h
  unfold mesh_after.f
  rw [if_pos (by omega), if_pos (by omega)]
  have e : rd_T47 l1 (i : Int) = l1.getD i z47 := by unfold rd_T47; rw [Int.toNat_natCast]
  rw [e]
  unfold trs trT
  generalize l1.getD i z47 = q at *
  dsimp only
  congr 1
  unfold wrap64
  omega
theorem index_f (a b c v : Int) (r : Int) (h : (a = v ∧ r = 0) ∨ (a ≠ v ∧ b = v ∧ r = 1) ∨ (a ≠ v ∧ b ≠ v ∧ c = v ∧ r = 2)) : slices_Index_int_int.f 4 [a, b, c] v = some r := by
  skip
  rcases h with ⟨rfl, rfl⟩ | ⟨h1, rfl, rfl⟩ | ⟨h1, h2, rfl, rfl⟩
  · simp [slices_Index_int_int.f, slices_Index_int_int.l0, Go.Proofs.YtomknjmgcbbjlaaDoorW.PrintWords.rd, wrap64]
  · simp [slices_Index_int_int.f, slices_Index_int_int.l0, Go.Proofs.YtomknjmgcbbjlaaDoorW.PrintWords.rd, wrap64, Ne.symm h1]
  · simp [slices_Index_int_int.f, slices_Index_int_int.l0, Go.Proofs.YtomknjmgcbbjlaaDoorW.PrintWords.rd, wrap64, Ne.symm h1, Ne.symm h2]
theorem C3 {w : World} {g : Nat} {t : TypeId} {a b c : Int} (h : Blk w g t #[.int .i64 a, .int .i64 b, .int .i64 c]) : Kd.C (Kd.int .i64) w (some ⟨g, 0, none⟩) 3 [a, b, c] := by
  refine ⟨rfl, by decide, fun _ => ⟨⟨g, 0, none⟩, rfl, fun j p hp => ?_⟩⟩
  refine ⟨[.int .i64 p], rfl, rfl, fun i u hu => ?_⟩
  match i, hu with
  | i + 1, hu => simp at hu
  | 0, hu =>
    have : Value.int .i64 p = u := Option.some.inj hu
    subst this
    rw [Addr.add_lit, Nat.zero_add, Nat.add_zero, show j * (Kd.int .i64).sz = j from Nat.mul_one j, h.cell j]
    match j, hp with
    | 0, hp => cases hp; rfl
    | 1, hp => cases hp; rfl
    | 2, hp => cases hp; rfl
    | j + 3, hp => simp at hp
theorem drewN_own {w : World} {P : Program} {k : TypeId} {R : Value → Option (DataW Unit × List MemPlace)} {b n : Nat} {D : DataW Unit} (h : w.ownsMap P k R b n D) (m : Nat) : (w.drewN m).ownsMap P k R b n D := h
theorem rot0 (q : S47) (v : Int) (h : q.f0 = v) : Fan.frT (trT q) v = q.f1 ∧ Fan.toT (trT q) v = q.f2 := by
  show (if q.f0 = v then q.f1 else if q.f1 = v then q.f2 else q.f0) = q.f1 ∧ (if q.f0 = v then q.f2 else if q.f1 = v then q.f0 else q.f1) = q.f2
  rw [if_pos h, if_pos h]; exact ⟨rfl, rfl⟩
theorem rot1 (q : S47) (v : Int) (h0 : q.f0 ≠ v) (h : q.f1 = v) : Fan.frT (trT q) v = q.f2 ∧ Fan.toT (trT q) v = q.f0 := by
  show (if q.f0 = v then q.f1 else if q.f1 = v then q.f2 else q.f0) = q.f2 ∧ (if q.f0 = v then q.f2 else if q.f1 = v then q.f0 else q.f1) = q.f0
  rw [if_neg h0, if_pos h, if_neg h0, if_pos h]; exact ⟨rfl, rfl⟩
theorem rot2 (q : S47) (v : Int) (h0 : q.f0 ≠ v) (h : q.f1 ≠ v) : Fan.frT (trT q) v = q.f0 ∧ Fan.toT (trT q) v = q.f1 := by
  show (if q.f0 = v then q.f1 else if q.f1 = v then q.f2 else q.f0) = q.f0 ∧ (if q.f0 = v then q.f2 else if q.f1 = v then q.f0 else q.f1) = q.f1
  rw [if_neg h0, if_neg h, if_neg h0, if_neg h]; exact ⟨rfl, rfl⟩
structure Looks (D : DataW Unit) (n : Nat) (look : Int × Int → Option Nat) : Prop where
  lt : ∀ e i, look e = some i → i < n
  some_ : ∀ e i, wfE e → look e = some i → Maps.has D (kE e) = true ∧ ∀ z, D.atKey (kE e) z = .lit (.int .i64 i)
  none_ : ∀ e, wfE e → look e = none → Maps.has D (kE e) = false
theorem int_lit {a b : Int} (h : (DataW.lit (.int .i64 a) : DataW Unit) = .lit (.int .i64 b)) : a = b := by
  injection h with h
  injection h
theorem own_below {w w' : World} {P : Program} {k : TypeId} {R : Value → Option (DataW Unit × List MemPlace)} {b n : Nat} {D : DataW Unit} (h : w.ownsMap P k R b n D) (hb : Below w.heap.size w w') : w'.ownsMap P k R b n D := by
  have hlt := h.lt
  obtain ⟨es, clock, hm, F, hs, hD⟩ := h
  exact ⟨es, clock, (hb.block b hlt).trans hm, F, hs, hD⟩
theorem frT_low (q : S47) (v : Int) (h0 : 0 ≤ q.f0 ∧ q.f0 < 4000) (h1 : 0 ≤ q.f1 ∧ q.f1 < 4000) (h2 : 0 ≤ q.f2 ∧ q.f2 < 4000) : 0 ≤ Fan.frT (trT q) v ∧ Fan.frT (trT q) v < 4000 := by
  unfold Fan.frT trT; dsimp only; split; exact h1; split; exact h2; exact h0
theorem toT_low (q : S47) (v : Int) (h0 : 0 ≤ q.f0 ∧ q.f0 < 4000) (h1 : 0 ≤ q.f1 ∧ q.f1 < 4000) (h2 : 0 ≤ q.f2 ∧ q.f2 < 4000) : 0 ≤ Fan.toT (trT q) v ∧ Fan.toT (trT q) v < 4000 := by
  unfold Fan.toT trT; dsimp only; split; exact h2; split; exact h0; exact h1
theorem wf_small {z : Int} (h : 0 ≤ z ∧ z < 4000) : (Lit.int .i64 z).wf = true := WalkArith.wf_i64 (by omega)
set_option maxHeartbeats 1000000 in
set_option maxRecDepth 100000 in
theorem fan50 (w : World) (A0 A1 : Option Addr) (l0 : List S46) (l1 : List S47) (c0 c1 : Nat) (hr0 : Kd.C k46 w A0 l0.length l0) (hc0 : l0.length ≤ c0) (hr1 : Kd.C k47 w A1 l1.length l1) (hc1 : l1.length ≤ c1)
    (hlen : l1.length ≤ 8000) (hb : ∀ q ∈ l1, inB q) (gm sz : Nat) (D : DataW Unit) (hm : w.ownsMap Tryd.prog 107 (plainElem Tryd.prog 3) gm sz D) (look : Int × Int → Option Nat) (L : Looks D l1.length look)
    (v : Int) (hv : 0 ≤ v ∧ v < 4000) (first : Nat) (hf : first < l1.length) (hfv : Fan.has3 (trs l1 first) v = true) (k n : Nat) (hk : k ≤ 100000)
    (hn : Fan.fanN (fun t => look (v, t)) (fun t => look (t, v)) (fun i => Fan.frT (trs l1 i) v) (fun i => Fan.toT (trs l1 i) v) first k = some n)
    (haf : ∀ i t, look (v, t) = some i → (trs l1 i).1 + (trs l1 i).2.1 + (trs l1 i).2.2 - v - t = Fan.toT (trs l1 i) v) (hbf : ∀ i t, look (t, v) = some i → (trs l1 i).1 + (trs l1 i).2.1 + (trs l1 i).2.2 - t - v = Fan.frT (trs l1 i) v) :
    Calls Tryd.prog 88 #[.agg #[.slice A0 l0.length c0, .slice A1 l1.length c1], .map (some gm), .int .i64 v, .int .i64 first] w fun e w' => e = .returned (.int .i64 n) ∧ Below w.heap.size w w' := by
  have HR0 := Lib.hid hr0
  have HR1 := Lib.hid hr1
  have HBD := Lib.hid hb
  have HN := Lib.hid hn
  have HAF := Lib.hid haf
  have HBF := Lib.hid hbf
  clear hr0 hr1 hb hn haf hbf
  have hb1 := (Below.refl w.heap.size w).alloc (Nat.le_refl _) (.cells #[.slice A0 l0.length c0, .slice A1 l1.length c1] 25 (0, 0))
  have hm1 := Blk.here w 25 #[.slice A0 l0.length c0, .slice A1 l1.length c1]
  have own1 := hm.alloc (.cells #[.slice A0 l0.length c0, .slice A1 l1.length c1] 25 (0, 0))
  go_enter Tryd.func88, Tryd.ntmps88
  go_wp2_with fail
  apply Mem.scope_body
  have hs1 : (w.alloc (.cells #[.slice A0 l0.length c0, .slice A1 l1.length c1] 25 (0, 0))).heap.size = w.heap.size + 1 := by simp
  generalize w.alloc (.cells #[.slice A0 l0.length c0, .slice A1 l1.length c1] 25 (0, 0)) = w1 at *
  have x1 : w1.cell? ⟨w.heap.size, 1, none⟩ = some (.slice A1 l1.length c1) := hm1.cell 1
  obtain ⟨ad1, e1, y0, y1, y2⟩ := at_T47 (Kd.C_below HR1.out hb1) (first : Int) (by omega) (by omega)
  cases e1
  have eq0 : rd_T47 l1 (first : Int) = l1.getD first z47 := by unfold rd_T47; rw [Int.toNat_natCast]
  rw [eq0, Int.toNat_natCast] at y0 y1 y2
  have hq0 : trs l1 first = trT (l1.getD first z47) := rfl
  rw [hq0] at hfv
  have HBQ := Lib.hid (HBD.out _ (getD_mem hf))
  have HQ0 := Lib.hid hq0
  clear hq0 eq0
  generalize l1.getD first z47 = q at *
  have hbx := below_alloc hb1 (.cells #[.int .i64 q.f0, .int .i64 q.f1, .int .i64 q.f2] 47 (0, 0))
  have hm2 := hm1.alloc (.cells #[.int .i64 q.f0, .int .i64 q.f1, .int .i64 q.f2] 47 (0, 0))
  have own2 := own1.alloc (.cells #[.int .i64 q.f0, .int .i64 q.f1, .int .i64 q.f2] 47 (0, 0))
  have hx2 := Blk.here w1 47 #[.int .i64 q.f0, .int .i64 q.f1, .int .i64 q.f2]
  have p0 : (0 : Int) ≤ (first : Int) := by omega
  have p1 : (first : Int) < (l1.length : Int) := by omega
  go_wp2_with fail
  generalize hw2 : w1.alloc (.cells #[.int .i64 q.f0, .int .i64 q.f1, .int .i64 q.f2] 47 (0, 0)) = w2 at *
  rw [hs1] at hx2
  clear hs1
  generalize hgx : w.heap.size + 1 = gx at *
  have hgs : w.heap.size < gx := by omega
  clear hw2 y0 y1 y2 hb1 hm1 own1 x1 hgx
  have hcase : ∃ r : Int, ((q.f0 = v ∧ r = 0) ∨ (q.f0 ≠ v ∧ q.f1 = v ∧ r = 1) ∨ (q.f0 ≠ v ∧ q.f1 ≠ v ∧ q.f2 = v ∧ r = 2)) := by
    by_cases a1 : q.f0 = v
    · exact ⟨0, .inl ⟨a1, rfl⟩⟩
    · by_cases a2 : q.f1 = v
      · exact ⟨1, .inr (.inl ⟨a1, a2, rfl⟩)⟩
      · refine ⟨2, .inr (.inr ⟨a1, a2, ?_, rfl⟩)⟩
        simp only [Fan.has3, trT, Bool.or_eq_true, beq_iff_eq] at hfv
        omega
  obtain ⟨r, hr⟩ := hcase
  have hix := index_f q.f0 q.f1 q.f2 v r hr
  have hcall := slices_Index_int_int.calls 4 (some ⟨gx, 0, none⟩) 3 [q.f0, q.f1, q.f2] v r w2 (C3 hx2) (Nat.le_refl 3) hix
  rw [show ([q.f0, q.f1, q.f2] : List Int).length = 3 from rfl] at hcall
  refine hcall.mono ?_
  rintro e w3 ⟨rfl, ⟨m3, hd3⟩⟩
  have hB3 : Below w.heap.size w w3 := by rw [hd3]; exact pw_below_drewN hbx m3
  have hm3 : Blk w3 w.heap.size 25 #[.slice A0 l0.length c0, .slice (some ad1) l1.length c1] := by rw [hd3]; exact hm2.drewN m3
  have hx3 : Blk w3 gx 47 #[.int .i64 q.f0, .int .i64 q.f1, .int .i64 q.f2] := by rw [hd3]; exact hx2.drewN m3
  have own3 : w3.ownsMap Tryd.prog 107 (plainElem Tryd.prog 3) gm sz D := by rw [hd3]; exact drewN_own own2 m3
  clear hd3 hbx hm2 hx2 own2 hix hcall
  have z0 : w3.cell? ⟨gx, 0, none⟩ = some (.int .i64 q.f0) := hx3.cell 0
  have z1 : w3.cell? ⟨gx, 1, none⟩ = some (.int .i64 q.f1) := hx3.cell 1
  have z2 : w3.cell? ⟨gx, 2, none⟩ = some (.int .i64 q.f2) := hx3.cell 2
  obtain ⟨fr, hfr⟩ : ∃ fr, fr = Fan.frT (trT q) v := ⟨_, rfl⟩
  obtain ⟨tw, hto⟩ : ∃ tw, tw = Fan.toT (trT q) v := ⟨_, rfl⟩
  have hqb := HBQ.out
  have hlow : (0 ≤ fr ∧ fr < 4000) ∧ 0 ≤ tw ∧ tw < 4000 := by
    obtain ⟨b1, b2, b3⟩ := hqb
    have e1 : fr = q.f0 ∨ fr = q.f1 ∨ fr = q.f2 := by rw [hfr]; unfold Fan.frT trT; dsimp only; split; exact .inr (.inl rfl); split; exact .inr (.inr rfl); exact .inl rfl
    have e2 : tw = q.f0 ∨ tw = q.f1 ∨ tw = q.f2 := by rw [hto]; unfold Fan.toT trT; dsimp only; split; exact .inr (.inr rfl); split; exact .inl rfl; exact .inr (.inl rfl)
    refine ⟨?_, ?_⟩
    · rcases e1 with e | e | e <;> rw [e] <;> assumption
    · rcases e2 with e | e | e <;> rw [e] <;> assumption
  clear hqb HBQ
  have hN0 := HN.out
  rw [show Fan.fanN (fun t => look (v, t)) (fun t => look (t, v)) (fun i => Fan.frT (trs l1 i) v) (fun i => Fan.toT (trs l1 i) v) first k = (match Fan.fwd (fun t => look (v, t)) (fun i => Fan.toT (trs l1 i) v) first k 1 tw with | none => none | some (true, n) => some n | some (false, n) => Fan.bwd (fun t => look (t, v)) (fun i => Fan.frT (trs l1 i) v) k n fr) by rw [hfr, hto, ← HQ0.out]; rfl] at hN0
  obtain ⟨⟨bb, mm⟩, hfw⟩ : ∃ res, Fan.fwd (fun t => look (v, t)) (fun i => Fan.toT (trs l1 i) v) first k 1 tw = some res := by
    cases hfw : Fan.fwd (fun t => look (v, t)) (fun i => Fan.toT (trs l1 i) v) first k 1 tw with
    | none => rw [hfw] at hN0; cases hN0
    | some res => exact ⟨res, rfl⟩
  rw [hfw] at hN0
  have hN1 : (bb = true → mm = n) ∧ (bb = false → Fan.bwd (fun t => look (t, v)) (fun i => Fan.frT (trs l1 i) v) k mm fr = some n) := by
    cases bb
    · exact ⟨fun h => (nomatch h), fun _ => hN0⟩
    · exact ⟨fun _ => Option.some.inj hN0, fun h => (nomatch h)⟩
  clear hN0 HN
  have HFW := Aside0.mk hfw
  have HN1 := Lib.hid hN1
  clear hfw hN1
  rcases hr with ⟨a1, rfl⟩ | ⟨a1, a2, rfl⟩ | ⟨a1, a2, a3, rfl⟩
  · obtain ⟨f1, f2⟩ := rot0 q v a1
    rw [← f1, ← hfr] at z1
    rw [← f2, ← hto] at z2
    clear a1 f1 f2
    replace hfr := Lib.hid hfr
    replace hto := Lib.hid hto
    go_wp2_with fail
    go_region
    clear z0 z1 z2
    go_wp2_with fail
    go_step3
    go_wp2_with fail
    have hB4 := hB3.drew
    have hm4 := hm3.drew
    have own4 := own3.drew
    generalize w3.drew = w4 at *
    clear hB3 hm3 own3 hx3
    go_loopg [9, 13] k (fun kq v9 v13 wr => ∃ (m : Nat) (t : Int), v9 = .int .i64 m ∧ v13 = .int .i64 t ∧ (0 ≤ t ∧ t < 4000) ∧ m + kq ≤ k + 1 ∧ Aside0 (Fan.fwd (fun t => look (v, t)) (fun i => Fan.toT (trs l1 i) v) first kq m t = some (bb, mm)) ∧ Aside0 (kq ≤ k) ∧ Below w.heap.size w wr ∧ Blk wr w.heap.size 25 #[.slice A0 l0.length c0, .slice (some ad1) l1.length c1] ∧ wr.ownsMap Tryd.prog 107 (plainElem Tryd.prog 3) gm sz D)
    case atStart => exact ⟨1, tw, rfl, rfl, hlow.2, by omega, HFW, ⟨Nat.le_refl _⟩, hB4, hm4, own4⟩
    case round =>
      clear HFW hB4 hm4 own4
      obtain ⟨m, t, rfl, rfl, ht, hmk, HA, HK1, hB, hmb, own⟩ := hrel
      cases gk with
      | zero => exact absurd HA.out (by simp [Fan.fwd])
      | succ k1 =>
        have H := HA.out
        clear HA
        rw [Fan.fwd] at H
        have wv : (Lit.int .i64 v).wf = true := wf_small hv
        have wt : (Lit.int .i64 t).wf = true := wf_small ht
        have hkl := kE_key (a := v) (b := t) wv wt
        obtain ⟨kl, hklE⟩ : ∃ kl, kl = kE (v, t) := ⟨_, rfl⟩
        rw [← hklE] at hkl
        have HK := Lib.hid hklE
        clear hklE
        have x2 : wr.cell? ⟨w.heap.size, 0, none⟩ = some (.slice A0 l0.length c0) := hmb.cell 0
        have x3 : wr.cell? ⟨w.heap.size, 1, none⟩ = some (.slice (some ad1) l1.length c1) := hmb.cell 1
        cases hlk : look (v, t) with
        | none =>
          rw [hlk] at H
          have hh := L.none_ (v, t) ⟨wv, wt⟩ hlk
          rw [← HK.out] at hh
          go_wp2_with (first | (at_lookup; refine wpList_lookup_own_ok_int _ rfl _ _ 94 rfl 107 3 .i64 lawE Tryd.underlying94 Tryd.underlying3 (zeroE _) gm _ D rfl own _ _ rfl hkl ?_; intro c hat hwc))
          go_step3
          go_wp2_with fail
          have hbm : bb = false ∧ m = mm := by
            have := Option.some.inj H
            injection this with h1 h2
            exact ⟨h1.symm, h2⟩
          obtain ⟨rfl, rfl⟩ := hbm
          have hbw := Aside0.mk (HN1.out.2 rfl)
          clear HN1 H x2 x3 hkl HK hlk hh hat hwc wt
          go_loopg [9, 12] k (fun kq v9 v12 wr => ∃ (m : Nat) (t : Int), v9 = .int .i64 m ∧ v12 = .int .i64 t ∧ (0 ≤ t ∧ t < 4000) ∧ m + kq ≤ 2 * k + 1 ∧ Aside0 (Fan.bwd (fun t => look (t, v)) (fun i => Fan.frT (trs l1 i) v) kq m t = some n) ∧ Aside0 (kq ≤ k) ∧ Below w.heap.size w wr ∧ Blk wr w.heap.size 25 #[.slice A0 l0.length c0, .slice (some ad1) l1.length c1] ∧ wr.ownsMap Tryd.prog 107 (plainElem Tryd.prog 3) gm sz D)
          case atStart => exact ⟨m, fr, rfl, rfl, hlow.1, by omega, hbw, ⟨Nat.le_refl _⟩, hB, hmb, own⟩
          case round =>
            clear hbw hB hmb own
            obtain ⟨m, t, rfl, rfl, ht, hmk, HA, HK1, hB, hmb, own⟩ := hrel
            cases gk with
            | zero => exact absurd HA.out (by simp [Fan.bwd])
            | succ k2 =>
              have H := HA.out
              clear HA
              rw [Fan.bwd] at H
              have wt : (Lit.int .i64 t).wf = true := wf_small ht
              have hkl := kE_key (a := t) (b := v) wt wv
              obtain ⟨kl, hklE⟩ : ∃ kl, kl = kE (t, v) := ⟨_, rfl⟩
              rw [← hklE] at hkl
              have HK := Lib.hid hklE
              clear hklE
              have x2 : wr.cell? ⟨w.heap.size, 0, none⟩ = some (.slice A0 l0.length c0) := hmb.cell 0
              have x3 : wr.cell? ⟨w.heap.size, 1, none⟩ = some (.slice (some ad1) l1.length c1) := hmb.cell 1
              cases hlk : look (t, v) with
              | none =>
                rw [hlk] at H
                have hh := L.none_ (t, v) ⟨wt, wv⟩ hlk
                rw [← HK.out] at hh
                have hmn : m = n := Option.some.inj H
                subst hmn
                go_wp2_with (first | (at_lookup; refine wpList_lookup_own_ok_int _ rfl _ _ 94 rfl 107 3 .i64 lawE Tryd.underlying94 Tryd.underlying3 (zeroE _) gm _ D rfl own _ _ rfl hkl ?_; intro c hat hwc))
                go_ret
                exact ⟨rfl, hB⟩
              | some i =>
                rw [hlk] at H
                obtain ⟨hh, hati⟩ := L.some_ (t, v) i ⟨wt, wv⟩ hlk
                rw [← HK.out] at hh hati
                have hil := L.lt _ _ hlk
                have haf := after_f l0 l1 i hil HBD.out t v ht hv
                rw [HBF.out i t hlk] at haf
                have hrange : 0 ≤ Fan.frT (trs l1 i) v ∧ Fan.frT (trs l1 i) v < 4000 := by
                  obtain ⟨b1, b2, b3⟩ := HBD.out _ (getD_mem hil)
                  exact frT_low _ _ b1 b2 b3
                have H2 : Fan.bwd (fun t => look (t, v)) (fun i => Fan.frT (trs l1 i) v) k2 (m + 1) (Fan.frT (trs l1 i) v) = some n := H
                generalize Fan.frT (trs l1 i) v = t2 at *
                have HA2 := Aside0.mk H2
                clear H H2
                go_wp2_with (first | (at_lookup; refine wpList_lookup_own_ok_int _ rfl _ _ 94 rfl 107 3 .i64 lawE Tryd.underlying94 Tryd.underlying3 (zeroE _) gm _ D rfl own _ _ rfl hkl ?_; intro c hat hwc; have hci : c = (i : Int) := int_lit (hat.symm.trans (hati _)); subst hci))
                refine (mesh_after.calls _ _ l0 _ _ l1 i t v t2 _ (Kd.C_below HR0.out hB) hc0 (Kd.C_below HR1.out hB) hc1 haf).mono ?_
                rintro e w7 ⟨rfl, hb7⟩
                have hB7 := hB.trans (hb7.mono hB.size)
                have hm7 := hmb.below hb7
                have own7 := own_below own hb7
                clear hb7 hB hmb own x2 x3
                go_wp2_with fail
                go_roundg k2
                case measure => have := HK1.out; omega
                case rel => exact ⟨m + 1, t2, by go_num, rfl, hrange, by omega, HA2, ⟨by have := HK1.out; omega⟩, hB7, hm7, own7⟩
        | some i =>
          rw [hlk] at H
          obtain ⟨hh, hati⟩ := L.some_ (v, t) i ⟨wv, wt⟩ hlk
          rw [← HK.out] at hh hati
          have hil := L.lt _ _ hlk
          have haf := after_f l0 l1 i hil HBD.out v t hv ht
          rw [HAF.out i t hlk] at haf
          have hrange : 0 ≤ Fan.toT (trs l1 i) v ∧ Fan.toT (trs l1 i) v < 4000 := by
            obtain ⟨b1, b2, b3⟩ := HBD.out _ (getD_mem hil)
            exact toT_low _ _ b1 b2 b3
          dsimp only at H
          by_cases hif : i = first
          · rw [if_pos hif] at H
            have hbm : bb = true ∧ m = mm := by
              have := Option.some.inj H
              injection this with h1 h2
              exact ⟨h1.symm, h2⟩
            obtain ⟨rfl, rfl⟩ := hbm
            have hmn := HN1.out.1 rfl
            subst hmn
            subst hif
            generalize Fan.toT (trs l1 i) v = t2 at *
            clear H HN1
            go_wp2_with (first | (at_lookup; refine wpList_lookup_own_ok_int _ rfl _ _ 94 rfl 107 3 .i64 lawE Tryd.underlying94 Tryd.underlying3 (zeroE _) gm _ D rfl own _ _ rfl hkl ?_; intro c hat hwc; have hci : c = (i : Int) := int_lit (hat.symm.trans (hati _)); subst hci))
            refine (mesh_after.calls _ _ l0 _ _ l1 i v t t2 _ (Kd.C_below HR0.out hB) hc0 (Kd.C_below HR1.out hB) hc1 haf).mono ?_
            rintro e w7 ⟨rfl, hb7⟩
            have hB7 := hB.trans (hb7.mono hB.size)
            go_wp2
            go_ret
            exact ⟨rfl, hB7⟩
          · rw [if_neg hif] at H
            have hne : ((i : Int) == (first : Int)) = false := beq_eq_false_iff_ne.2 (by omega)
            have H2 : Fan.fwd (fun t => look (v, t)) (fun i => Fan.toT (trs l1 i) v) first k1 (m + 1) (Fan.toT (trs l1 i) v) = some (bb, mm) := H
            generalize Fan.toT (trs l1 i) v = t2 at *
            have HA2 := Aside0.mk H2
            clear H H2
            go_wp2_with (first | (at_lookup; refine wpList_lookup_own_ok_int _ rfl _ _ 94 rfl 107 3 .i64 lawE Tryd.underlying94 Tryd.underlying3 (zeroE _) gm _ D rfl own _ _ rfl hkl ?_; intro c hat hwc; have hci : c = (i : Int) := int_lit (hat.symm.trans (hati _)); subst hci))
            refine (mesh_after.calls _ _ l0 _ _ l1 i v t t2 _ (Kd.C_below HR0.out hB) hc0 (Kd.C_below HR1.out hB) hc1 haf).mono ?_
            rintro e w7 ⟨rfl, hb7⟩
            have hB7 := hB.trans (hb7.mono hB.size)
            have hm7 := hmb.below hb7
            have own7 := own_below own hb7
            clear hb7 hB hmb own x2 x3
            go_wp2_with fail
            go_roundg k1
            case measure => have := HK1.out; omega
            case rel => exact ⟨m + 1, t2, by go_num, rfl, hrange, by omega, HA2, ⟨by have := HK1.out; omega⟩, hB7, hm7, own7⟩
  · obtain ⟨f1, f2⟩ := rot1 q v a1 a2
    rw [← f1, ← hfr] at z2
    rw [← f2, ← hto] at z0
    clear a1 a2 f1 f2
    replace hfr := Lib.hid hfr
    replace hto := Lib.hid hto
    go_wp2_with fail
    go_region
    clear z0 z1 z2
    go_wp2_with fail
    go_step3
    go_wp2_with fail
    have hB4 := hB3.drew
    have hm4 := hm3.drew
    have own4 := own3.drew
    generalize w3.drew = w4 at *
    clear hB3 hm3 own3 hx3
    go_loopg [9, 13] k (fun kq v9 v13 wr => ∃ (m : Nat) (t : Int), v9 = .int .i64 m ∧ v13 = .int .i64 t ∧ (0 ≤ t ∧ t < 4000) ∧ m + kq ≤ k + 1 ∧ Aside0 (Fan.fwd (fun t => look (v, t)) (fun i => Fan.toT (trs l1 i) v) first kq m t = some (bb, mm)) ∧ Aside0 (kq ≤ k) ∧ Below w.heap.size w wr ∧ Blk wr w.heap.size 25 #[.slice A0 l0.length c0, .slice (some ad1) l1.length c1] ∧ wr.ownsMap Tryd.prog 107 (plainElem Tryd.prog 3) gm sz D)
    case atStart => exact ⟨1, tw, rfl, rfl, hlow.2, by omega, HFW, ⟨Nat.le_refl _⟩, hB4, hm4, own4⟩
    case round =>
      clear HFW hB4 hm4 own4
      obtain ⟨m, t, rfl, rfl, ht, hmk, HA, HK1, hB, hmb, own⟩ := hrel
      cases gk with
      | zero => exact absurd HA.out (by simp [Fan.fwd])
      | succ k1 =>
        have H := HA.out
        clear HA
        rw [Fan.fwd] at H
        have wv : (Lit.int .i64 v).wf = true := wf_small hv
        have wt : (Lit.int .i64 t).wf = true := wf_small ht
        have hkl := kE_key (a := v) (b := t) wv wt
        obtain ⟨kl, hklE⟩ : ∃ kl, kl = kE (v, t) := ⟨_, rfl⟩
        rw [← hklE] at hkl
        have HK := Lib.hid hklE
        clear hklE
        have x2 : wr.cell? ⟨w.heap.size, 0, none⟩ = some (.slice A0 l0.length c0) := hmb.cell 0
        have x3 : wr.cell? ⟨w.heap.size, 1, none⟩ = some (.slice (some ad1) l1.length c1) := hmb.cell 1
        cases hlk : look (v, t) with
        | none =>
          rw [hlk] at H
          have hh := L.none_ (v, t) ⟨wv, wt⟩ hlk
          rw [← HK.out] at hh
          go_wp2_with (first | (at_lookup; refine wpList_lookup_own_ok_int _ rfl _ _ 94 rfl 107 3 .i64 lawE Tryd.underlying94 Tryd.underlying3 (zeroE _) gm _ D rfl own _ _ rfl hkl ?_; intro c hat hwc))
          go_step3
          go_wp2_with fail
          have hbm : bb = false ∧ m = mm := by
            have := Option.some.inj H
            injection this with h1 h2
            exact ⟨h1.symm, h2⟩
          obtain ⟨rfl, rfl⟩ := hbm
          have hbw := Aside0.mk (HN1.out.2 rfl)
          clear HN1 H x2 x3 hkl HK hlk hh hat hwc wt
          go_loopg [9, 12] k (fun kq v9 v12 wr => ∃ (m : Nat) (t : Int), v9 = .int .i64 m ∧ v12 = .int .i64 t ∧ (0 ≤ t ∧ t < 4000) ∧ m + kq ≤ 2 * k + 1 ∧ Aside0 (Fan.bwd (fun t => look (t, v)) (fun i => Fan.frT (trs l1 i) v) kq m t = some n) ∧ Aside0 (kq ≤ k) ∧ Below w.heap.size w wr ∧ Blk wr w.heap.size 25 #[.slice A0 l0.length c0, .slice (some ad1) l1.length c1] ∧ wr.ownsMap Tryd.prog 107 (plainElem Tryd.prog 3) gm sz D)
          case atStart => exact ⟨m, fr, rfl, rfl, hlow.1, by omega, hbw, ⟨Nat.le_refl _⟩, hB, hmb, own⟩
          case round =>
            clear hbw hB hmb own
            obtain ⟨m, t, rfl, rfl, ht, hmk, HA, HK1, hB, hmb, own⟩ := hrel
            cases gk with
            | zero => exact absurd HA.out (by simp [Fan.bwd])
            | succ k2 =>
              have H := HA.out
              clear HA
              rw [Fan.bwd] at H
              have wt : (Lit.int .i64 t).wf = true := wf_small ht
              have hkl := kE_key (a := t) (b := v) wt wv
              obtain ⟨kl, hklE⟩ : ∃ kl, kl = kE (t, v) := ⟨_, rfl⟩
              rw [← hklE] at hkl
              have HK := Lib.hid hklE
              clear hklE
              have x2 : wr.cell? ⟨w.heap.size, 0, none⟩ = some (.slice A0 l0.length c0) := hmb.cell 0
              have x3 : wr.cell? ⟨w.heap.size, 1, none⟩ = some (.slice (some ad1) l1.length c1) := hmb.cell 1
              cases hlk : look (t, v) with
              | none =>
                rw [hlk] at H
                have hh := L.none_ (t, v) ⟨wt, wv⟩ hlk
                rw [← HK.out] at hh
                have hmn : m = n := Option.some.inj H
                subst hmn
                go_wp2_with (first | (at_lookup; refine wpList_lookup_own_ok_int _ rfl _ _ 94 rfl 107 3 .i64 lawE Tryd.underlying94 Tryd.underlying3 (zeroE _) gm _ D rfl own _ _ rfl hkl ?_; intro c hat hwc))
                go_ret
                exact ⟨rfl, hB⟩
              | some i =>
                rw [hlk] at H
                obtain ⟨hh, hati⟩ := L.some_ (t, v) i ⟨wt, wv⟩ hlk
                rw [← HK.out] at hh hati
                have hil := L.lt _ _ hlk
                have haf := after_f l0 l1 i hil HBD.out t v ht hv
                rw [HBF.out i t hlk] at haf
                have hrange : 0 ≤ Fan.frT (trs l1 i) v ∧ Fan.frT (trs l1 i) v < 4000 := by
                  obtain ⟨b1, b2, b3⟩ := HBD.out _ (getD_mem hil)
                  exact frT_low _ _ b1 b2 b3
                have H2 : Fan.bwd (fun t => look (t, v)) (fun i => Fan.frT (trs l1 i) v) k2 (m + 1) (Fan.frT (trs l1 i) v) = some n := H
                generalize Fan.frT (trs l1 i) v = t2 at *
                have HA2 := Aside0.mk H2
                clear H H2
                go_wp2_with (first | (at_lookup; refine wpList_lookup_own_ok_int _ rfl _ _ 94 rfl 107 3 .i64 lawE Tryd.underlying94 Tryd.underlying3 (zeroE _) gm _ D rfl own _ _ rfl hkl ?_; intro c hat hwc; have hci : c = (i : Int) := int_lit (hat.symm.trans (hati _)); subst hci))
                refine (mesh_after.calls _ _ l0 _ _ l1 i t v t2 _ (Kd.C_below HR0.out hB) hc0 (Kd.C_below HR1.out hB) hc1 haf).mono ?_
                rintro e w7 ⟨rfl, hb7⟩
                have hB7 := hB.trans (hb7.mono hB.size)
                have hm7 := hmb.below hb7
                have own7 := own_below own hb7
                clear hb7 hB hmb own x2 x3
                go_wp2_with fail
                go_roundg k2
                case measure => have := HK1.out; omega
                case rel => exact ⟨m + 1, t2, by go_num, rfl, hrange, by omega, HA2, ⟨by have := HK1.out; omega⟩, hB7, hm7, own7⟩
        | some i =>
          rw [hlk] at H
          obtain ⟨hh, hati⟩ := L.some_ (v, t) i ⟨wv, wt⟩ hlk
          rw [← HK.out] at hh hati
          have hil := L.lt _ _ hlk
          have haf := after_f l0 l1 i hil HBD.out v t hv ht
          rw [HAF.out i t hlk] at haf
          have hrange : 0 ≤ Fan.toT (trs l1 i) v ∧ Fan.toT (trs l1 i) v < 4000 := by
            obtain ⟨b1, b2, b3⟩ := HBD.out _ (getD_mem hil)
            exact toT_low _ _ b1 b2 b3
          dsimp only at H
          by_cases hif : i = first
          · rw [if_pos hif] at H
            have hbm : bb = true ∧ m = mm := by
              have := Option.some.inj H
              injection this with h1 h2
              exact ⟨h1.symm, h2⟩
            obtain ⟨rfl, rfl⟩ := hbm
            have hmn := HN1.out.1 rfl
            subst hmn
            subst hif
            generalize Fan.toT (trs l1 i) v = t2 at *
            clear H HN1
            go_wp2_with (first | (at_lookup; refine wpList_lookup_own_ok_int _ rfl _ _ 94 rfl 107 3 .i64 lawE Tryd.underlying94 Tryd.underlying3 (zeroE _) gm _ D rfl own _ _ rfl hkl ?_; intro c hat hwc; have hci : c = (i : Int) := int_lit (hat.symm.trans (hati _)); subst hci))
            refine (mesh_after.calls _ _ l0 _ _ l1 i v t t2 _ (Kd.C_below HR0.out hB) hc0 (Kd.C_below HR1.out hB) hc1 haf).mono ?_
            rintro e w7 ⟨rfl, hb7⟩
            have hB7 := hB.trans (hb7.mono hB.size)
            go_wp2
            go_ret
            exact ⟨rfl, hB7⟩
          · rw [if_neg hif] at H
            have hne : ((i : Int) == (first : Int)) = false := beq_eq_false_iff_ne.2 (by omega)
            have H2 : Fan.fwd (fun t => look (v, t)) (fun i => Fan.toT (trs l1 i) v) first k1 (m + 1) (Fan.toT (trs l1 i) v) = some (bb, mm) := H
            generalize Fan.toT (trs l1 i) v = t2 at *
            have HA2 := Aside0.mk H2
            clear H H2
            go_wp2_with (first | (at_lookup; refine wpList_lookup_own_ok_int _ rfl _ _ 94 rfl 107 3 .i64 lawE Tryd.underlying94 Tryd.underlying3 (zeroE _) gm _ D rfl own _ _ rfl hkl ?_; intro c hat hwc; have hci : c = (i : Int) := int_lit (hat.symm.trans (hati _)); subst hci))
            refine (mesh_after.calls _ _ l0 _ _ l1 i v t t2 _ (Kd.C_below HR0.out hB) hc0 (Kd.C_below HR1.out hB) hc1 haf).mono ?_
            rintro e w7 ⟨rfl, hb7⟩
            have hB7 := hB.trans (hb7.mono hB.size)
            have hm7 := hmb.below hb7
            have own7 := own_below own hb7
            clear hb7 hB hmb own x2 x3
            go_wp2_with fail
            go_roundg k1
            case measure => have := HK1.out; omega
            case rel => exact ⟨m + 1, t2, by go_num, rfl, hrange, by omega, HA2, ⟨by have := HK1.out; omega⟩, hB7, hm7, own7⟩
  · obtain ⟨f1, f2⟩ := rot2 q v a1 a2
    rw [← f1, ← hfr] at z0
    rw [← f2, ← hto] at z1
    clear a1 a2 a3 f1 f2
    replace hfr := Lib.hid hfr
    replace hto := Lib.hid hto
    go_wp2_with fail
    go_region
    clear z0 z1 z2
    go_wp2_with fail
    go_step3
    go_wp2_with fail
    have hB4 := hB3.drew
    have hm4 := hm3.drew
    have own4 := own3.drew
    generalize w3.drew = w4 at *
    clear hB3 hm3 own3 hx3
    go_loopg [9, 13] k (fun kq v9 v13 wr => ∃ (m : Nat) (t : Int), v9 = .int .i64 m ∧ v13 = .int .i64 t ∧ (0 ≤ t ∧ t < 4000) ∧ m + kq ≤ k + 1 ∧ Aside0 (Fan.fwd (fun t => look (v, t)) (fun i => Fan.toT (trs l1 i) v) first kq m t = some (bb, mm)) ∧ Aside0 (kq ≤ k) ∧ Below w.heap.size w wr ∧ Blk wr w.heap.size 25 #[.slice A0 l0.length c0, .slice (some ad1) l1.length c1] ∧ wr.ownsMap Tryd.prog 107 (plainElem Tryd.prog 3) gm sz D)
    case atStart => exact ⟨1, tw, rfl, rfl, hlow.2, by omega, HFW, ⟨Nat.le_refl _⟩, hB4, hm4, own4⟩
    case round =>
      clear HFW hB4 hm4 own4
      obtain ⟨m, t, rfl, rfl, ht, hmk, HA, HK1, hB, hmb, own⟩ := hrel
      cases gk with
      | zero => exact absurd HA.out (by simp [Fan.fwd])
      | succ k1 =>
        have H := HA.out
        clear HA
        rw [Fan.fwd] at H
        have wv : (Lit.int .i64 v).wf = true := wf_small hv
        have wt : (Lit.int .i64 t).wf = true := wf_small ht
        have hkl := kE_key (a := v) (b := t) wv wt
        obtain ⟨kl, hklE⟩ : ∃ kl, kl = kE (v, t) := ⟨_, rfl⟩
        rw [← hklE] at hkl
        have HK := Lib.hid hklE
        clear hklE
        have x2 : wr.cell? ⟨w.heap.size, 0, none⟩ = some (.slice A0 l0.length c0) := hmb.cell 0
        have x3 : wr.cell? ⟨w.heap.size, 1, none⟩ = some (.slice (some ad1) l1.length c1) := hmb.cell 1
        cases hlk : look (v, t) with
        | none =>
          rw [hlk] at H
          have hh := L.none_ (v, t) ⟨wv, wt⟩ hlk
          rw [← HK.out] at hh
          go_wp2_with (first | (at_lookup; refine wpList_lookup_own_ok_int _ rfl _ _ 94 rfl 107 3 .i64 lawE Tryd.underlying94 Tryd.underlying3 (zeroE _) gm _ D rfl own _ _ rfl hkl ?_; intro c hat hwc))
          go_step3
          go_wp2_with fail
          have hbm : bb = false ∧ m = mm := by
            have := Option.some.inj H
            injection this with h1 h2
            exact ⟨h1.symm, h2⟩
          obtain ⟨rfl, rfl⟩ := hbm
          have hbw := Aside0.mk (HN1.out.2 rfl)
          clear HN1 H x2 x3 hkl HK hlk hh hat hwc wt
          go_loopg [9, 12] k (fun kq v9 v12 wr => ∃ (m : Nat) (t : Int), v9 = .int .i64 m ∧ v12 = .int .i64 t ∧ (0 ≤ t ∧ t < 4000) ∧ m + kq ≤ 2 * k + 1 ∧ Aside0 (Fan.bwd (fun t => look (t, v)) (fun i => Fan.frT (trs l1 i) v) kq m t = some n) ∧ Aside0 (kq ≤ k) ∧ Below w.heap.size w wr ∧ Blk wr w.heap.size 25 #[.slice A0 l0.length c0, .slice (some ad1) l1.length c1] ∧ wr.ownsMap Tryd.prog 107 (plainElem Tryd.prog 3) gm sz D)
          case atStart => exact ⟨m, fr, rfl, rfl, hlow.1, by omega, hbw, ⟨Nat.le_refl _⟩, hB, hmb, own⟩
          case round =>
            clear hbw hB hmb own
            obtain ⟨m, t, rfl, rfl, ht, hmk, HA, HK1, hB, hmb, own⟩ := hrel
            cases gk with
            | zero => exact absurd HA.out (by simp [Fan.bwd])
            | succ k2 =>
              have H := HA.out
              clear HA
              rw [Fan.bwd] at H
              have wt : (Lit.int .i64 t).wf = true := wf_small ht
              have hkl := kE_key (a := t) (b := v) wt wv
              obtain ⟨kl, hklE⟩ : ∃ kl, kl = kE (t, v) := ⟨_, rfl⟩
              rw [← hklE] at hkl
              have HK := Lib.hid hklE
              clear hklE
              have x2 : wr.cell? ⟨w.heap.size, 0, none⟩ = some (.slice A0 l0.length c0) := hmb.cell 0
              have x3 : wr.cell? ⟨w.heap.size, 1, none⟩ = some (.slice (some ad1) l1.length c1) := hmb.cell 1
              cases hlk : look (t, v) with
              | none =>
                rw [hlk] at H
                have hh := L.none_ (t, v) ⟨wt, wv⟩ hlk
                rw [← HK.out] at hh
                have hmn : m = n := Option.some.inj H
                subst hmn
                go_wp2_with (first | (at_lookup; refine wpList_lookup_own_ok_int _ rfl _ _ 94 rfl 107 3 .i64 lawE Tryd.underlying94 Tryd.underlying3 (zeroE _) gm _ D rfl own _ _ rfl hkl ?_; intro c hat hwc))
                go_ret
                exact ⟨rfl, hB⟩
              | some i =>
                rw [hlk] at H
                obtain ⟨hh, hati⟩ := L.some_ (t, v) i ⟨wt, wv⟩ hlk
                rw [← HK.out] at hh hati
                have hil := L.lt _ _ hlk
                have haf := after_f l0 l1 i hil HBD.out t v ht hv
                rw [HBF.out i t hlk] at haf
                have hrange : 0 ≤ Fan.frT (trs l1 i) v ∧ Fan.frT (trs l1 i) v < 4000 := by
                  obtain ⟨b1, b2, b3⟩ := HBD.out _ (getD_mem hil)
                  exact frT_low _ _ b1 b2 b3
                have H2 : Fan.bwd (fun t => look (t, v)) (fun i => Fan.frT (trs l1 i) v) k2 (m + 1) (Fan.frT (trs l1 i) v) = some n := H
                generalize Fan.frT (trs l1 i) v = t2 at *
                have HA2 := Aside0.mk H2
                clear H H2
                go_wp2_with (first | (at_lookup; refine wpList_lookup_own_ok_int _ rfl _ _ 94 rfl 107 3 .i64 lawE Tryd.underlying94 Tryd.underlying3 (zeroE _) gm _ D rfl own _ _ rfl hkl ?_; intro c hat hwc; have hci : c = (i : Int) := int_lit (hat.symm.trans (hati _)); subst hci))
                refine (mesh_after.calls _ _ l0 _ _ l1 i t v t2 _ (Kd.C_below HR0.out hB) hc0 (Kd.C_below HR1.out hB) hc1 haf).mono ?_
                rintro e w7 ⟨rfl, hb7⟩
                have hB7 := hB.trans (hb7.mono hB.size)
                have hm7 := hmb.below hb7
                have own7 := own_below own hb7
                clear hb7 hB hmb own x2 x3
                go_wp2_with fail
                go_roundg k2
                case measure => have := HK1.out; omega
                case rel => exact ⟨m + 1, t2, by go_num, rfl, hrange, by omega, HA2, ⟨by have := HK1.out; omega⟩, hB7, hm7, own7⟩
        | some i =>
          rw [hlk] at H
          obtain ⟨hh, hati⟩ := L.some_ (v, t) i ⟨wv, wt⟩ hlk
          rw [← HK.out] at hh hati
          have hil := L.lt _ _ hlk
          have haf := after_f l0 l1 i hil HBD.out v t hv ht
          rw [HAF.out i t hlk] at haf
          have hrange : 0 ≤ Fan.toT (trs l1 i) v ∧ Fan.toT (trs l1 i) v < 4000 := by
            obtain ⟨b1, b2, b3⟩ := HBD.out _ (getD_mem hil)
            exact toT_low _ _ b1 b2 b3
          dsimp only at H
          by_cases hif : i = first
          · rw [if_pos hif] at H
            have hbm : bb = true ∧ m = mm := by
              have := Option.some.inj H
              injection this with h1 h2
              exact ⟨h1.symm, h2⟩
            obtain ⟨rfl, rfl⟩ := hbm
            have hmn := HN1.out.1 rfl
            subst hmn
            subst hif
            generalize Fan.toT (trs l1 i) v = t2 at *
            clear H HN1
            go_wp2_with (first | (at_lookup; refine wpList_lookup_own_ok_int _ rfl _ _ 94 rfl 107 3 .i64 lawE Tryd.underlying94 Tryd.underlying3 (zeroE _) gm _ D rfl own _ _ rfl hkl ?_; intro c hat hwc; have hci : c = (i : Int) := int_lit (hat.symm.trans (hati _)); subst hci))
            refine (mesh_after.calls _ _ l0 _ _ l1 i v t t2 _ (Kd.C_below HR0.out hB) hc0 (Kd.C_below HR1.out hB) hc1 haf).mono ?_
            rintro e w7 ⟨rfl, hb7⟩
            have hB7 := hB.trans (hb7.mono hB.size)
            go_wp2
            go_ret
            exact ⟨rfl, hB7⟩
          · rw [if_neg hif] at H
            have hne : ((i : Int) == (first : Int)) = false := beq_eq_false_iff_ne.2 (by omega)
            have H2 : Fan.fwd (fun t => look (v, t)) (fun i => Fan.toT (trs l1 i) v) first k1 (m + 1) (Fan.toT (trs l1 i) v) = some (bb, mm) := H
            generalize Fan.toT (trs l1 i) v = t2 at *
            have HA2 := Aside0.mk H2
            clear H H2
            go_wp2_with (first | (at_lookup; refine wpList_lookup_own_ok_int _ rfl _ _ 94 rfl 107 3 .i64 lawE Tryd.underlying94 Tryd.underlying3 (zeroE _) gm _ D rfl own _ _ rfl hkl ?_; intro c hat hwc; have hci : c = (i : Int) := int_lit (hat.symm.trans (hati _)); subst hci))
            refine (mesh_after.calls _ _ l0 _ _ l1 i v t t2 _ (Kd.C_below HR0.out hB) hc0 (Kd.C_below HR1.out hB) hc1 haf).mono ?_
            rintro e w7 ⟨rfl, hb7⟩
            have hB7 := hB.trans (hb7.mono hB.size)
            have hm7 := hmb.below hb7
            have own7 := own_below own hb7
            clear hb7 hB hmb own x2 x3
            go_wp2_with fail
            go_roundg k1
            case measure => have := HK1.out; omega
            case rel => exact ⟨m + 1, t2, by go_num, rfl, hrange, by omega, HA2, ⟨by have := HK1.out; omega⟩, hB7, hm7, own7⟩
end Go.Proofs.YtomknjmgcbbjlaaDoor.MM
namespace Go.Proofs.YtomknjmgcbbjlaaDoor.MM
open Go Go.RowKit Go.Maps Go.WideMaps Go.Proofs.YtomknjmgcbbjlaaDoor.Mem Go.Proofs.YtomknjmgcbbjlaaDoor.PWlk Go.Proofs.YtomknjmgcbbjlaaDoorW.PrintWords Go.Proofs.YtomknjmgcbbjlaaDoorW.PrintLast Go.Proofs.YtomknjmgcbbjlaaDoorW.PrintMore
set_option linter.unusedVariables false
set_option maxRecDepth 100000
set_option linter.unusedSimpArgs false
def bump (C : List Int) (v : Int) : List Int := C.set v.toNat (wrap64 (C.getD v.toNat 0 + 1))
def cntK (C : List Int) (q : S47) : Nat → List Int
  | 0 => C
  | 1 => bump C q.f0
  | 2 => bump (bump C q.f0) q.f1
  | _ => bump (bump (bump C q.f0) q.f1) q.f2
def fstK (F : List Int) (q : S47) (i : Int) : Nat → List Int
  | 0 => F
  | 1 => F.set q.f0.toNat i
  | 2 => (F.set q.f0.toNat i).set q.f1.toNat i
  | _ => ((F.set q.f0.toNat i).set q.f1.toNat i).set q.f2.toNat i
def cntL (P : Nat) (l : List S47) : Nat → List Int
  | 0 => List.replicate P 0
  | i + 1 => cntK (cntL P l i) (l.getD i z47) 3
def fstL (P : Nat) (l : List S47) : Nat → List Int
  | 0 => List.replicate P 0
  | i + 1 => fstK (fstL P l i) (l.getD i z47) i 3
theorem cntK_len (C : List Int) (q : S47) (k : Nat) : (cntK C q k).length = C.length := by
  match k with
  | 0 => rfl
  | 1 => simp [cntK, bump]
  | 2 => simp [cntK, bump]
  | k + 3 => simp [cntK, bump]
theorem fstK_len (F : List Int) (q : S47) (i : Int) (k : Nat) : (fstK F q i k).length = F.length := by
  match k with
  | 0 => rfl
  | 1 => simp [fstK]
  | 2 => simp [fstK]
  | k + 3 => simp [fstK]
theorem cntL_len (P : Nat) (l : List S47) (i : Nat) : (cntL P l i).length = P := by
  induction i with
  | zero => simp [cntL]
  | succ i ih => rw [cntL, cntK_len, ih]
theorem fstL_len (P : Nat) (l : List S47) (i : Nat) : (fstL P l i).length = P := by
  induction i with
  | zero => simp [fstL]
  | succ i ih => rw [fstL, fstK_len, ih]
theorem put_facts {w : World} {base g n cap : Nat} {ok : Nat → Prop} {C : List Int} (h : Kd.R (Kd.int .i64) 3 w base ok (.slice (some ⟨g, 0, none⟩) n cap) C) (v : Nat) (hv : v < C.length) :
    w.cell? ⟨g, v, none⟩ = some (.int .i64 (C.getD v 0)) ∧ w.frozen? ⟨g, v, none⟩ = false := by
  obtain ⟨A, c, he, _, hC⟩ := Kd.R_reads h
  injection he with h1 h2 h3
  subst h1
  obtain ⟨ad, e, hc⟩ := Kd.at_int hC (v : Int) (by omega) (by omega)
  cases e
  rw [Int.toNat_natCast, Addr.add_lit, Nat.zero_add] at hc
  have e2 : Go.Proofs.YtomknjmgcbbjlaaDoorW.PrintWords.rd C (v : Int) = C.getD v 0 := rfl
  rw [e2] at hc
  refine ⟨hc, ?_⟩
  obtain ⟨g', cap', hv', _, _, cls, hb⟩ := Kd.R_form h (by omega)
  injection hv' with h4 _ _
  injection h4 with h4
  injection h4 with h4
  subst h4
  exact Blk.frozen (t := 3) (cs := cls) hb _
theorem slice_of {w : World} {base b : Nat} {ok : Nat → Prop} {v : Value} {xs : List Int} (h : Kd.R (Kd.int .i64) 3 w base ok v xs) (hb : v.ownBlock = some b) : ∃ cap, v = .slice (some ⟨b, 0, none⟩) xs.length cap := by
  obtain ⟨A, c, rfl⟩ := Kd.R_slice h
  cases A with
  | none => simp [Value.ownBlock] at hb
  | some ad =>
    obtain ⟨g, rfl⟩ := Kd.R_head h
    have : g = b := by simpa [Value.ownBlock] using hb
    subst this
    exact ⟨c, rfl⟩
set_option maxHeartbeats 1000000 in
set_option maxRecDepth 100000 in
theorem fans40 (w : World) (A0 A1 : Option Addr) (l0 : List S46) (l1 : List S47) (c0 c1 : Nat) (hr0 : Kd.C k46 w A0 l0.length l0) (hc0 : l0.length ≤ c0) (hr1 : Kd.C k47 w A1 l1.length l1) (hc1 : l1.length ≤ c1)
    (hlp : l0.length ≤ 4000) (hlen : l1.length ≤ 8000) (hb : ∀ q ∈ l1, (0 ≤ q.f0 ∧ q.f0 < l0.length) ∧ (0 ≤ q.f1 ∧ q.f1 < l0.length) ∧ (0 ≤ q.f2 ∧ q.f2 < l0.length)) (gm sz : Nat) (D : DataW Unit) (hm : w.ownsMap Tryd.prog 107 (plainElem Tryd.prog 3) gm sz D) (look : Int × Int → Option Nat) (L : Looks D l1.length look)
    (r : Bool) (N : Nat → Nat)
    (hgood : ∀ v : Nat, v < l0.length → (cntL l0.length l1 l1.length).getD v 0 ≠ 0 → ∃ first : Nat, (fstL l0.length l1 l1.length).getD v 0 = first ∧ first < l1.length ∧ Fan.has3 (trs l1 first) v = true ∧ (∃ k, k ≤ 100000 ∧ Fan.fanN (fun t => look ((v : Int), t)) (fun t => look (t, (v : Int))) (fun i => Fan.frT (trs l1 i) v) (fun i => Fan.toT (trs l1 i) v) first k = some (N v)) ∧
      (∀ i t, look ((v : Int), t) = some i → (trs l1 i).1 + (trs l1 i).2.1 + (trs l1 i).2.2 - (v : Int) - t = Fan.toT (trs l1 i) v) ∧ (∀ i t, look (t, (v : Int)) = some i → (trs l1 i).1 + (trs l1 i).2.1 + (trs l1 i).2.2 - t - (v : Int) = Fan.frT (trs l1 i) v))
    (hres : r = true ↔ ∀ v : Nat, v < l0.length → (cntL l0.length l1 l1.length).getD v 0 ≠ 0 ∧ ((N v : Int) = (cntL l0.length l1 l1.length).getD v 0)) :
    Calls Tryd.prog 73 #[.agg #[.slice A0 l0.length c0, .slice A1 l1.length c1], .map (some gm)] w fun e w' => e = .returned (.bool r) ∧ Below w.heap.size w w' := by
  have HR0 := Lib.hid hr0
  have HR1 := Lib.hid hr1
  have HBD := Lib.hid hb
  have HG := Lib.hid hgood
  have HRES := Lib.hid hres
  clear hr0 hr1 hb hgood hres
  have hb1 := (Below.refl w.heap.size w).alloc (Nat.le_refl _) (.cells #[.slice A0 l0.length c0, .slice A1 l1.length c1] 25 (0, 0))
  have hm1 := Blk.here w 25 #[.slice A0 l0.length c0, .slice A1 l1.length c1]
  have own1 := hm.alloc (.cells #[.slice A0 l0.length c0, .slice A1 l1.length c1] 25 (0, 0))
  have hP0 : (0 : Int) ≤ (l0.length : Int) := by omega
  go_enter Tryd.func73, Tryd.ntmps73
  go_wp2_with (first | ((with_reducible refine gate_dst (N := 16) rfl ?_); refine Kd.R_make (Kd.int .i64) w.heap.size 3 rfl (N := 16) rfl 32 _ _ rfl (l0.length : Int) rfl rfl Tryd.underlying32 (.int .i64 0) 8 info3 rfl (by decide) (by omega) 0 (ok := fun _ => True) (okp := fun _ => True) rfl (fun _ hk => hk) trivial hP0 (by rw [Int.toNat_natCast]; omega) hb1 hb1.size ?_; intro v1 w5 ho5 hb5 hg5 hn5; have hm5 := hm1.grown hg5 (by simp); have own5 := own1.kept hg5 (by simp); have ho5t := ho5; clear hb1 hg5; have x1 : w5.cell? ⟨w.heap.size, 0, none⟩ = some (.slice A0 l0.length c0) := hm5.cell 0; have x1b : w5.cell? ⟨w.heap.size, 1, none⟩ = some (.slice A1 l1.length c1) := hm5.cell 1) | ((with_reducible refine gate_dst (N := 20) rfl ?_); refine Kd.R_make (Kd.int .i64) w.heap.size 3 rfl (N := 20) rfl 32 _ _ rfl (l0.length : Int) rfl rfl Tryd.underlying32 (.int .i64 0) 8 info3 rfl (by decide) (by omega) 0 (ok := fun _ => True) (okp := fun _ => True) rfl (fun _ hk => hk) trivial hP0 (by rw [Int.toNat_natCast]; omega) hb5 hb5.size ?_; intro v2 w6 ho6 hb6 hg6 hn6; have hm6 := hm5.grown hg6 (by simp); have own6 := own5.kept hg6 (by simp); have ho56 := Kd.R_grown ho5t hg6 (fun k hk => by simp); clear x1 x1b; have x1 : w6.cell? ⟨w.heap.size, 0, none⟩ = some (.slice A0 l0.length c0) := hm6.cell 0; have x1b : w6.cell? ⟨w.heap.size, 1, none⟩ = some (.slice A1 l1.length c1) := hm6.cell 1))
  obtain ⟨g1, hv1, hle1⟩ := hn5
  obtain ⟨g2, hv2, hle2⟩ := hn6
  have hlt1 := Kd.R_lt ho5 g1 hv1
  have hg1 : w.heap.size < g1 := by
    have : (w.alloc (.cells #[.slice A0 l0.length c0, .slice A1 l1.length c1] 25 (0, 0))).heap.size = w.heap.size + 1 := by simp
    omega
  have hgg : g1 ≠ g2 := by omega
  have hg2 : w.heap.size < g2 := by omega
  have hgm := hm.lt
  rw [Int.toNat_natCast] at ho56 ho6
  have R1 := Kd.R_reok (ok := fun k => k = g1) rfl ho56 (fun k hk => by rw [hv1] at hk; exact (Option.some.inj hk).symm)
  have R2 := Kd.R_reok (ok := fun k => k = g2) rfl ho6 (fun k hk => by rw [hv2] at hk; exact (Option.some.inj hk).symm)
  obtain ⟨k1, rfl⟩ := slice_of R1 hv1
  obtain ⟨k2, rfl⟩ := slice_of R2 hv2
  rw [List.length_replicate] at R1 R2 ⊢
  have p3 : (3 : Int) = 3 := rfl
  clear ho5 ho56 ho6 hg6 hb5 hm1 hm5 own1 own5 ho5t hm hv1 hv2 hle1 hle2 hlt1 hP0
  go_loopw [24] (fun v24 wr => ∃ i : Int, v24 = .int .i64 i ∧ 0 ≤ i ∧ i ≤ l1.length ∧ Below w.heap.size w wr ∧ Blk wr w.heap.size 25 #[.slice A0 l0.length c0, .slice A1 l1.length c1] ∧ wr.ownsMap Tryd.prog 107 (plainElem Tryd.prog 3) gm sz D ∧ Kd.R (Kd.int .i64) 3 wr w.heap.size (fun k => k = g1) (.slice (some ⟨g1, 0, none⟩) l0.length k1) (cntL l0.length l1 i.toNat) ∧ Kd.R (Kd.int .i64) 3 wr w.heap.size (fun k => k = g2) (.slice (some ⟨g2, 0, none⟩) l0.length k2) (fstL l0.length l1 i.toNat)) (fun v24 _ => l1.length - (intOf v24).toNat)
  case atStart => exact ⟨0, rfl, by omega, by omega, hb6, hm6, own6, R1, R2⟩
  case round =>
    clear hb6 hm6 own6 R1 R2 x1 x1b
    obtain ⟨i, rfl, hi0, hi1, hB, hm, own, hR1, hR2⟩ := hrel
    by_cases hlt : i < l1.length
    · have dl : decide (i < (l1.length : Int)) = true := decide_eq_true hlt
      obtain ⟨ad1, e1, y0, y1, y2⟩ := at_T47 (Kd.C_below HR1.out hB) i hi0 hlt
      cases e1
      have p1 := eq_true hi0
      have p2 := eq_true hlt
      have hq := HBD.out (rd_T47 l1 i) (getD_mem (by omega))
      have hq1 : l1.getD i.toNat z47 = rd_T47 l1 i := rfl
      generalize rd_T47 l1 i = q at *
      have hB2 := below_alloc hB (.cells #[.int .i64 q.f0, .int .i64 q.f1, .int .i64 q.f2] 47 (0, 0))
      have hm2 := hm.alloc (.cells #[.int .i64 q.f0, .int .i64 q.f1, .int .i64 q.f2] 47 (0, 0))
      have own2 := own.alloc (.cells #[.int .i64 q.f0, .int .i64 q.f1, .int .i64 q.f2] 47 (0, 0))
      have hR1a := Kd.R_alloc hR1 (.cells #[.int .i64 q.f0, .int .i64 q.f1, .int .i64 q.f2] 47 (0, 0))
      have hR2a := Kd.R_alloc hR2 (.cells #[.int .i64 q.f0, .int .i64 q.f1, .int .i64 q.f2] 47 (0, 0))
      replace hq1 := Lib.hid hq1
      go_wp2_with fail
      generalize wr.alloc (.cells #[.int .i64 q.f0, .int .i64 q.f1, .int .i64 q.f2] 47 (0, 0)) = w4 at *
      clear hB hm own hR1 hR2 y0 y1 y2
      go_loopw [30] (fun v30 wr => ∃ k : Int, v30 = .int .i64 k ∧ 0 ≤ k ∧ k ≤ 3 ∧ Below w.heap.size w wr ∧ Blk wr w.heap.size 25 #[.slice A0 l0.length c0, .slice (some ad1) l1.length c1] ∧ wr.ownsMap Tryd.prog 107 (plainElem Tryd.prog 3) gm sz D ∧ Kd.R (Kd.int .i64) 3 wr w.heap.size (fun k => k = g1) (.slice (some ⟨g1, 0, none⟩) l0.length k1) (cntK (cntL l0.length l1 i.toNat) q k.toNat) ∧ Kd.R (Kd.int .i64) 3 wr w.heap.size (fun k => k = g2) (.slice (some ⟨g2, 0, none⟩) l0.length k2) (fstK (fstL l0.length l1 i.toNat) q i k.toNat)) (fun v30 _ => 3 - (intOf v30).toNat)
      case atStart => exact ⟨0, rfl, by omega, by omega, hB2, hm2, own2, hR1a, hR2a⟩
      case round =>
        clear hB2 hm2 own2 hR1a hR2a
        obtain ⟨k, rfl, hk0, hk1, hB, hm, own, hR1, hR2⟩ := hrel
        have ix0 := idx57_0_m
        have ix1 := idx57_1_m
        have ix2 := idx57_2_m
        by_cases hk : k < 3
        · have dk : decide (k < 3) = true := decide_eq_true hk
          obtain rfl | rfl | rfl : k = 0 ∨ k = 1 ∨ k = 2 := by omega
          · rw [show Int.toNat 0 = 0 from rfl] at hR1 hR2
            have hv := hq.1
            have hvl : q.f0.toNat < l0.length := by omega
            obtain ⟨y1, y2⟩ := put_facts hR1 q.f0.toNat (by rw [cntK_len, cntL_len]; exact hvl)
            obtain ⟨y3, y4⟩ := put_facts hR2 q.f0.toNat (by rw [fstK_len, fstL_len]; exact hvl)
            have hR1' := Kd.R_putg hR1 q.f0 (wrap64 ((cntK (cntL l0.length l1 i.toNat) q 0).getD q.f0.toNat 0 + 1))
            have hc1 : (cntK (cntL l0.length l1 i.toNat) q 0).set q.f0.toNat (wrap64 ((cntK (cntL l0.length l1 i.toNat) q 0).getD q.f0.toNat 0 + 1)) = cntK (cntL l0.length l1 i.toNat) q 1 := rfl
            rw [hc1] at hR1'
            have hf1 : (fstK (fstL l0.length l1 i.toNat) q i 0).set q.f0.toNat i = fstK (fstL l0.length l1 i.toNat) q i 1 := rfl
            generalize (cntK (cntL l0.length l1 i.toNat) q 0).getD q.f0.toNat 0 = c at *
            generalize (fstK (fstL l0.length l1 i.toNat) q i 0).getD q.f0.toNat 0 = c2 at *
            have hR2a := Kd.R_far (p := ⟨g1, q.f0.toNat, none⟩) hR2 (fun k hk => by rw [hk]; exact fun e => hgg e.symm) (.int .i64 (wrap64 (c + 1)))
            have hR2b := Kd.R_putg hR2a q.f0 i
            rw [hf1] at hR2b
            have hR1b := Kd.R_far (p := ⟨g2, q.f0.toNat, none⟩) hR1'.1 (fun k hk => by rw [hk]; exact hgg) (.int .i64 i)
            have ownb := (own.kept hR1'.2 (by intro h; injection h with h; omega)).kept hR2b.2 (by intro h; injection h with h; omega)
            have hmb := (hm.far (p := ⟨g1, q.f0.toNat, none⟩) (by show w.heap.size ≠ g1; omega) (.int .i64 (wrap64 (c + 1)))).far (p := ⟨g2, q.f0.toNat, none⟩) (by show w.heap.size ≠ g2; omega) (.int .i64 i)
            have hBb := (hB.setCell (p := ⟨g1, q.f0.toNat, none⟩) (by show w.heap.size ≤ g1; omega) (.int .i64 (wrap64 (c + 1)))).setCell (p := ⟨g2, q.f0.toNat, none⟩) (by show w.heap.size ≤ g2; omega) (.int .i64 i)
            have hR2c := hR2b.1
            have y3b : (wr.setCell ⟨g1, q.f0.toNat, none⟩ (.int .i64 (wrap64 (c + 1)))).cell? ⟨g2, q.f0.toNat, none⟩ = some (.int .i64 c2) := by rw [World.cell?_setCell_other _ _ _ _ (by intro h; simp only [Addr.mk.injEq] at h; exact hgg h.1)]; exact y3
            clear hR1' hR2a hR2b hR1 hR2 hc1 hf1 own hm hB
            go_wp2_with fail
            go_roundw
            case rel => exact ⟨1, rfl, by omega, by omega, hBb, hmb, ownb, hR1b, hR2c⟩
            case measure => simp [intOf]
          · rw [show Int.toNat 1 = 1 from rfl] at hR1 hR2
            have hv := hq.2.1
            have hvl : q.f1.toNat < l0.length := by omega
            obtain ⟨y1, y2⟩ := put_facts hR1 q.f1.toNat (by rw [cntK_len, cntL_len]; exact hvl)
            obtain ⟨y3, y4⟩ := put_facts hR2 q.f1.toNat (by rw [fstK_len, fstL_len]; exact hvl)
            have hR1' := Kd.R_putg hR1 q.f1 (wrap64 ((cntK (cntL l0.length l1 i.toNat) q 1).getD q.f1.toNat 0 + 1))
            have hc1 : (cntK (cntL l0.length l1 i.toNat) q 1).set q.f1.toNat (wrap64 ((cntK (cntL l0.length l1 i.toNat) q 1).getD q.f1.toNat 0 + 1)) = cntK (cntL l0.length l1 i.toNat) q 2 := rfl
            rw [hc1] at hR1'
            have hf1 : (fstK (fstL l0.length l1 i.toNat) q i 1).set q.f1.toNat i = fstK (fstL l0.length l1 i.toNat) q i 2 := rfl
            generalize (cntK (cntL l0.length l1 i.toNat) q 1).getD q.f1.toNat 0 = c at *
            generalize (fstK (fstL l0.length l1 i.toNat) q i 1).getD q.f1.toNat 0 = c2 at *
            have hR2a := Kd.R_far (p := ⟨g1, q.f1.toNat, none⟩) hR2 (fun k hk => by rw [hk]; exact fun e => hgg e.symm) (.int .i64 (wrap64 (c + 1)))
            have hR2b := Kd.R_putg hR2a q.f1 i
            rw [hf1] at hR2b
            have hR1b := Kd.R_far (p := ⟨g2, q.f1.toNat, none⟩) hR1'.1 (fun k hk => by rw [hk]; exact hgg) (.int .i64 i)
            have ownb := (own.kept hR1'.2 (by intro h; injection h with h; omega)).kept hR2b.2 (by intro h; injection h with h; omega)
            have hmb := (hm.far (p := ⟨g1, q.f1.toNat, none⟩) (by show w.heap.size ≠ g1; omega) (.int .i64 (wrap64 (c + 1)))).far (p := ⟨g2, q.f1.toNat, none⟩) (by show w.heap.size ≠ g2; omega) (.int .i64 i)
            have hBb := (hB.setCell (p := ⟨g1, q.f1.toNat, none⟩) (by show w.heap.size ≤ g1; omega) (.int .i64 (wrap64 (c + 1)))).setCell (p := ⟨g2, q.f1.toNat, none⟩) (by show w.heap.size ≤ g2; omega) (.int .i64 i)
            have hR2c := hR2b.1
            have y3b : (wr.setCell ⟨g1, q.f1.toNat, none⟩ (.int .i64 (wrap64 (c + 1)))).cell? ⟨g2, q.f1.toNat, none⟩ = some (.int .i64 c2) := by rw [World.cell?_setCell_other _ _ _ _ (by intro h; simp only [Addr.mk.injEq] at h; exact hgg h.1)]; exact y3
            clear hR1' hR2a hR2b hR1 hR2 hc1 hf1 own hm hB
            go_wp2_with fail
            go_roundw
            case rel => exact ⟨2, rfl, by omega, by omega, hBb, hmb, ownb, hR1b, hR2c⟩
            case measure => simp [intOf]
          · rw [show Int.toNat 2 = 2 from rfl] at hR1 hR2
            have hv := hq.2.2
            have hvl : q.f2.toNat < l0.length := by omega
            obtain ⟨y1, y2⟩ := put_facts hR1 q.f2.toNat (by rw [cntK_len, cntL_len]; exact hvl)
            obtain ⟨y3, y4⟩ := put_facts hR2 q.f2.toNat (by rw [fstK_len, fstL_len]; exact hvl)
            have hR1' := Kd.R_putg hR1 q.f2 (wrap64 ((cntK (cntL l0.length l1 i.toNat) q 2).getD q.f2.toNat 0 + 1))
            have hc1 : (cntK (cntL l0.length l1 i.toNat) q 2).set q.f2.toNat (wrap64 ((cntK (cntL l0.length l1 i.toNat) q 2).getD q.f2.toNat 0 + 1)) = cntK (cntL l0.length l1 i.toNat) q 3 := rfl
            rw [hc1] at hR1'
            have hf1 : (fstK (fstL l0.length l1 i.toNat) q i 2).set q.f2.toNat i = fstK (fstL l0.length l1 i.toNat) q i 3 := rfl
            generalize (cntK (cntL l0.length l1 i.toNat) q 2).getD q.f2.toNat 0 = c at *
            generalize (fstK (fstL l0.length l1 i.toNat) q i 2).getD q.f2.toNat 0 = c2 at *
            have hR2a := Kd.R_far (p := ⟨g1, q.f2.toNat, none⟩) hR2 (fun k hk => by rw [hk]; exact fun e => hgg e.symm) (.int .i64 (wrap64 (c + 1)))
            have hR2b := Kd.R_putg hR2a q.f2 i
            rw [hf1] at hR2b
            have hR1b := Kd.R_far (p := ⟨g2, q.f2.toNat, none⟩) hR1'.1 (fun k hk => by rw [hk]; exact hgg) (.int .i64 i)
            have ownb := (own.kept hR1'.2 (by intro h; injection h with h; omega)).kept hR2b.2 (by intro h; injection h with h; omega)
            have hmb := (hm.far (p := ⟨g1, q.f2.toNat, none⟩) (by show w.heap.size ≠ g1; omega) (.int .i64 (wrap64 (c + 1)))).far (p := ⟨g2, q.f2.toNat, none⟩) (by show w.heap.size ≠ g2; omega) (.int .i64 i)
            have hBb := (hB.setCell (p := ⟨g1, q.f2.toNat, none⟩) (by show w.heap.size ≤ g1; omega) (.int .i64 (wrap64 (c + 1)))).setCell (p := ⟨g2, q.f2.toNat, none⟩) (by show w.heap.size ≤ g2; omega) (.int .i64 i)
            have hR2c := hR2b.1
            have y3b : (wr.setCell ⟨g1, q.f2.toNat, none⟩ (.int .i64 (wrap64 (c + 1)))).cell? ⟨g2, q.f2.toNat, none⟩ = some (.int .i64 c2) := by rw [World.cell?_setCell_other _ _ _ _ (by intro h; simp only [Addr.mk.injEq] at h; exact hgg h.1)]; exact y3
            clear hR1' hR2a hR2b hR1 hR2 hc1 hf1 own hm hB
            go_wp2_with fail
            go_roundw
            case rel => exact ⟨3, rfl, by omega, by omega, hBb, hmb, ownb, hR1b, hR2c⟩
            case measure => simp [intOf]
        · have dk : decide (k < 3) = false := decide_eq_false hk
          obtain rfl : k = 3 := by omega
          go_wp2_with fail
          go_roundw
          case rel =>
            refine ⟨i + 1, by go_num, by omega, by omega, hB, hm, own, ?_, ?_⟩
            · rw [show (i + 1).toNat = i.toNat + 1 by omega, cntL, hq1.out]; exact hR1
            · rw [show (i + 1).toNat = i.toNat + 1 by omega, fstL, hq1.out, show ((i.toNat : Nat) : Int) = i by omega]; exact hR2
          case measure => simp [intOf]; omega
    · have dl : decide (i < (l1.length : Int)) = false := decide_eq_false hlt
      have hin : i.toNat = l1.length := by omega
      rw [hin] at hR1 hR2
      have hCl := cntL_len l0.length l1 l1.length
      have hFl := fstL_len l0.length l1 l1.length
      generalize cntL l0.length l1 l1.length = C at *
      generalize fstL l0.length l1 l1.length = F at *
      go_wp2_with fail
      go_loopw [47] (fun v47 wr => ∃ v : Int, v47 = .int .i64 v ∧ 0 ≤ v ∧ v ≤ l0.length ∧ Below w.heap.size w wr ∧ Blk wr w.heap.size 25 #[.slice A0 l0.length c0, .slice A1 l1.length c1] ∧ wr.ownsMap Tryd.prog 107 (plainElem Tryd.prog 3) gm sz D ∧ Kd.R (Kd.int .i64) 3 wr w.heap.size (fun k => k = g1) (.slice (some ⟨g1, 0, none⟩) l0.length k1) C ∧ Kd.R (Kd.int .i64) 3 wr w.heap.size (fun k => k = g2) (.slice (some ⟨g2, 0, none⟩) l0.length k2) F ∧ ∀ j : Nat, j < v.toNat → C.getD j 0 ≠ 0 ∧ (N j : Int) = C.getD j 0) (fun v47 _ => l0.length - (intOf v47).toNat)
      case atStart => exact ⟨0, rfl, by omega, by omega, hB, hm, own, hR1, hR2, fun j hj => absurd hj (by simp)⟩
      case round =>
        clear hB hm own hR1 hR2
        obtain ⟨v, rfl, hv0, hv1, hB, hm, own, hR1, hR2, hok⟩ := hrel
        replace hok := Lib.hid hok
        by_cases hvl : v < l0.length
        · have dv : decide (v < (l0.length : Int)) = true := decide_eq_true hvl
          obtain ⟨y1, y2⟩ := put_facts hR1 v.toNat (by omega)
          obtain ⟨y3, y4⟩ := put_facts hR2 v.toNat (by omega)
          have p1 := eq_true hv0
          have p2 := eq_true hvl
          have x1 : wr.cell? ⟨w.heap.size, 0, none⟩ = some (.slice A0 l0.length c0) := hm.cell 0
          have x1b : wr.cell? ⟨w.heap.size, 1, none⟩ = some (.slice A1 l1.length c1) := hm.cell 1
          have hbad : ∀ j : Nat, j < l0.length → (C.getD j 0 = 0 ∨ (N j : Int) ≠ C.getD j 0) → r = false := by
            intro j hj hc
            cases hr : r with
            | false => rfl
            | true =>
              have := HRES.out.1 hr j hj
              rcases hc with hc | hc
              · exact absurd hc this.1
              · exact absurd this.2 hc
          by_cases hz : C.getD v.toNat 0 = 0
          · have hrf := hbad v.toNat (by omega) (.inl hz)
            rw [hz] at y1
            subst hrf
            clear hbad HRES
            go_wp2_with fail
            go_region
            go_wp2
            go_ret
            exact ⟨rfl, hB.drew⟩
          · obtain ⟨first, f1, f2, f3, ⟨kf, f4, f5⟩, f6, f7⟩ := HG.out v.toNat (by omega) hz
            have hvv : ((v.toNat : Nat) : Int) = v := by omega
            rw [hvv] at f3 f5 f6 f7
            rw [f1] at y3
            have dz : (C.getD v.toNat 0 == 0) = false := beq_eq_false_iff_ne.2 hz
            obtain ⟨I, hI⟩ : ∃ I : World → Prop, I = fun w' => Below w.heap.size w w' ∧ Blk w' w.heap.size 25 #[.slice A0 l0.length c0, .slice A1 l1.length c1] ∧ w'.ownsMap Tryd.prog 107 (plainElem Tryd.prog 3) gm sz D ∧ Kd.R (Kd.int .i64) 3 w' w.heap.size (fun k => k = g1) (.slice (some ⟨g1, 0, none⟩) l0.length k1) C ∧ Kd.R (Kd.int .i64) 3 w' w.heap.size (fun k => k = g2) (.slice (some ⟨g2, 0, none⟩) l0.length k2) F := ⟨_, rfl⟩
            have hI0 : I wr.drew := by rw [hI]; exact ⟨hB.drew, hm.drew, own.drew, Kd.R_drew hR1, Kd.R_drew hR2⟩
            have hI1 : ∀ w7, Below wr.drew.heap.size wr.drew w7 → I w7 ∧ w7.cell? ⟨w.heap.size, 0, none⟩ = some (.slice A0 l0.length c0) ∧ w7.cell? ⟨w.heap.size, 1, none⟩ = some (.slice A1 l1.length c1) ∧ w7.cell? ⟨g2, v.toNat, none⟩ = some (.int .i64 first) := by
              intro w7 hb7
              have q1 := hB.drew.trans (hb7.mono hB.drew.size)
              have q2 := hm.drew.below hb7
              have q3 := Kd.R_below (Kd.R_drew hR2) hb7
              refine ⟨by rw [hI]; exact ⟨q1, q2, own_below own.drew hb7, Kd.R_below (Kd.R_drew hR1) hb7, q3⟩, q2.cell 0, q2.cell 1, ?_⟩
              rw [← f1]
              exact (put_facts q3 v.toNat (by omega)).1
            have hfan := fan50 wr.drew A0 A1 l0 l1 c0 c1 (Kd.C_below HR0.out hB.drew) hc0 (Kd.C_below HR1.out hB.drew) hc1 hlen (fun q hq => by have := HBD.out q hq; unfold inB; omega) gm sz D own.drew look L v (by omega) first f2 f3 kf (N v.toNat) f4 f5 f6 f7
            have HI := Lib.hid hI
            clear hI f5 f6 f7 f3 hB hm own hR1 hR2
            by_cases hn : (N v.toNat : Int) = C.getD v.toNat 0
            · have dn : ((N v.toNat : Int) != C.getD v.toNat 0) = false := bne_eq_false_iff_eq.2 hn
              have hok2 : ∀ j : Nat, j < (v + 1).toNat → C.getD j 0 ≠ 0 ∧ (N j : Int) = C.getD j 0 := by
                intro j hj
                rcases Nat.lt_or_ge j v.toNat with h | h
                · exact hok.out j h
                · have : j = v.toNat := by omega
                  subst this
                  exact ⟨hz, hn⟩
              replace hok2 := Lib.hid hok2
              generalize hcc : C.getD v.toNat 0 = cc at *
              generalize hnn : (N v.toNat : Int) = nn at *
              replace hcc := Lib.hid hcc
              replace hnn := Lib.hid hnn
              replace hn := Lib.hid hn
              clear hbad
              go_wp2_with fail
              go_region_held3 (fun w' => w'.cell? ⟨w.heap.size, 0, none⟩ = some (.slice A0 l0.length c0) ∧ w'.cell? ⟨w.heap.size, 1, none⟩ = some (.slice A1 l1.length c1) ∧ w'.cell? ⟨g2, v.toNat, none⟩ = some (.int .i64 first) ∧ I w') (first | exact ⟨x1, x1b, y3, hI0⟩ | exact ⟨(hI1 _ hb7).2.1, (hI1 _ hb7).2.2.1, (hI1 _ hb7).2.2.2, (hI1 _ hb7).1⟩) (first | (go_at_call 88; refine hfan.mono ?_; rintro e w7 ⟨rfl, hb7⟩))
              have q := (hI1 _ hb7).1
              rw [HI.out] at q
              obtain ⟨q1, q2, q3, q4, q5⟩ := q
              clear hI0 hI1 hb7 hfan x1 x1b y1 y2 y3 y4
              go_wp2_with fail
              go_roundw
              case rel => exact ⟨v + 1, by go_num, by omega, by omega, q1, q2, q3, q4, q5, hok2.out⟩
              case measure => simp [intOf]; omega
            · have dn : ((N v.toNat : Int) != C.getD v.toNat 0) = true := bne_iff_ne.2 hn
              have hrf := hbad v.toNat (by omega) (.inr hn)
              subst hrf
              generalize hcc : C.getD v.toNat 0 = cc at *
              generalize hnn : (N v.toNat : Int) = nn at *
              replace hcc := Lib.hid hcc
              replace hnn := Lib.hid hnn
              replace hn := Lib.hid hn
              clear hbad HRES
              go_wp2_with fail
              go_region_held3 (fun w' => w'.cell? ⟨w.heap.size, 0, none⟩ = some (.slice A0 l0.length c0) ∧ w'.cell? ⟨w.heap.size, 1, none⟩ = some (.slice A1 l1.length c1) ∧ w'.cell? ⟨g2, v.toNat, none⟩ = some (.int .i64 first) ∧ I w') (first | exact ⟨x1, x1b, y3, hI0⟩ | exact ⟨(hI1 _ hb7).2.1, (hI1 _ hb7).2.2.1, (hI1 _ hb7).2.2.2, (hI1 _ hb7).1⟩) (first | (go_at_call 88; refine hfan.mono ?_; rintro e w7 ⟨rfl, hb7⟩))
              have q := (hI1 _ hb7).1
              rw [HI.out] at q
              clear hI0 hI1 hfan x1 x1b y1 y2 y3 y4
              go_wp2
              go_ret
              exact ⟨rfl, q.1⟩
        · have dv : decide (v < (l0.length : Int)) = false := decide_eq_false hvl
          have hvn : v.toNat = l0.length := by omega
          have hrt : r = true := HRES.out.2 (fun j hj => hok.out j (by omega))
          subst hrt
          go_wp2
          go_ret
          exact ⟨rfl, hB⟩
end Go.Proofs.YtomknjmgcbbjlaaDoor.MM
