/- The walks of the statements ModelFinds, ModelShares and ModelNew. -/
import Derived.Test.YtjegnmnojgglaaaModelCount
import Derived.OpenShut
namespace Go.Proofs.Ytjegnmnojgglaaa.MW
open Go Go.RowKit Go.Proofs.Ytjegnmnojgglaaa.PMod Go.Proofs.YtjegnmnojgglaaaW.PrintWords Go.Proofs.YtjegnmnojgglaaaW.PrintLast Go.Proofs.YtjegnmnojgglaaaW.PrintMore
set_option linter.unusedVariables false
set_option linter.unusedSimpArgs false

theorem counted_z (w : World) (z : Int) (n : Nat) (hz : z = n) (h1 : 1 ≤ n) (h2 : n ≤ 256) (L : Option Addr) (l : List Int) (lc : Nat) (hl : l.length ≤ 900) (hr : RdU w .u16 L l) (hw : ∀ x ∈ l, 0 ≤ x ∧ x < 65536) :
    Calls Try.prog 11 #[.int .i64 z, .slice L l.length lc] w fun e w' => ∃ bp bs A c, e = .returned (.tuple #[.pointer (some ⟨bp, 0, none⟩), .slice A n c]) ∧ n ≤ c ∧ Hid (IsM w' bp bs (cur n l) (cur n l).sum) ∧ Hid (RdI w' bp bs A (cur n l)) ∧
      w.heap.size ≤ bp ∧ w.heap.size ≤ bs ∧ Hid (Below w.heap.size w w') := by
  subst hz
  refine (counted_calls w n h1 h2 L l lc hl hr hw).mono ?_
  rintro e w' ⟨bp, bs, A, c, rfl, hc, hm, hrd, hp1, hp2, hb⟩
  have hlen : (cur n l).length = n := (cur_ok n h1 h2 l).2.2.1
  rw [hlen] at hc ⊢
  exact ⟨bp, bs, A, c, rfl, hc, Lib.hid hm, Lib.hid hrd, hp1, hp2, Lib.hid hb⟩

theorem rd_C {w : World} {bp bs : Nat} {A : Option Addr} {n : Nat} {l : List Int} (h : RdI w bp bs A (cur n l)) (h1 : 1 ≤ n) (h2 : n ≤ 256) {c : Nat} (hc : n ≤ c) : Kd.C (Kd.int .i64) w A (cur n l).length (cur n l) ∧ (cur n l).length ≤ c := by
  have hlen : (cur n l).length = n := (cur_ok n h1 h2 l).2.2.1
  exact ⟨h.C, by omega⟩

/-- Find, whichever way. -/
theorem find_any (w : World) (bp bs : Nat) (cs : List Int) (n : Nat) (h : IsM w bp bs cs cs.sum) (hok : Ok n cs) (v : Int) :
    Calls Try.prog 12 #[.pointer (some ⟨bp, 0, none⟩), .int .i64 v] w fun e w' => e = .returned (.tuple #[.int .i64 (findS cs v).1, .int .i64 (findS cs v).2]) ∧ w = w' := by
  unfold findS
  by_cases h1 : v < 0
  · rw [if_pos h1]; exact find_bad w bp bs cs _ h v (.inl h1)
  · rw [if_neg h1]
    by_cases h2 : cs.sum ≤ v
    · rw [if_pos h2]; exact find_bad w bp bs cs _ h v (.inr h2)
    · rw [if_neg h2]
      exact find_ok w bp bs cs _ h hok.inv v (by omega) (by omega) (by have := hok.2.1; omega)

/-- Share, whichever way. -/
theorem share_any (w : World) (bp bs : Nat) (cs : List Int) (n : Nat) (h : IsM w bp bs cs cs.sum) (hok : Ok n cs) (s : Int) :
    Calls Try.prog 14 #[.pointer (some ⟨bp, 0, none⟩), .int .i64 s] w fun e w' => e = .returned (.tuple #[.int .i64 (shareS cs s).1, .int .i64 (shareS cs s).2.1, .int .i64 (shareS cs s).2.2]) ∧ ∃ m, w' = w.drewN m := by
  unfold shareS
  by_cases h1 : s < 0
  · rw [if_pos h1]; exact share_bad w bp bs cs _ h s (.inl h1)
  · rw [if_neg h1]
    by_cases h2 : s ≥ (cs.length : Int)
    · rw [if_pos h2]; exact share_bad w bp bs cs _ h s (.inr h2)
    · rw [if_neg h2]
      obtain ⟨t, rfl⟩ := Int.eq_ofNat_of_zero_le (show 0 ≤ s by omega)
      simp only [Int.toNat_natCast]
      exact share_ok w bp bs cs _ h hok.inv t (by omega)

theorem below_drawn {B : Nat} {w w1 w2 : World} (h : Below B w w1) (hd : Drawn0 w1 w2) : Below B w w2 := by
  obtain ⟨n, rfl⟩ := hd.out
  exact below_dN h n

theorem finds_walk (w : World) (n0 : Int) (h0 : 0 ≤ n0 ∧ n0 < 256) (L : Option Addr) (l : List Int) (lc : Nat) (hlm : l.length ≤ maxLen) (hr : RdU w .u16 L l) (hw : ∀ x ∈ l, 0 ≤ x ∧ x < 65536) (v : Int) :
    Calls Try.prog 3 #[.int .u8 n0, .slice L l.length lc, .int .i64 v] w fun e w' => e = .returned (.bool true) ∧ Below w.heap.size w w' := by
  unfold maxLen at hlm
  obtain ⟨m, rfl⟩ := Int.eq_ofNat_of_zero_le h0.1
  have hm1 : m < 256 := by omega
  clear h0
  have HR := Lib.hid hr
  have HW := Lib.hid hw
  clear hr hw
  by_cases hlen : 900 < l.length
  · have d1 : decide (900 < (l.length : Int)) = true := decide_eq_true (by omega)
    have d2 : decide (900 < l.length) = true := decide_eq_true hlen
    go_enter Try.func3, Try.ntmps3
    go_wp2_with (go_at_call 10; refine (known_calls _).mono ?_; rintro e w' ⟨rfl, hb⟩)
    go_ret
    exact ⟨rfl, by assumption⟩
  · have d1 : decide (900 < (l.length : Int)) = false := decide_eq_false (by omega)
    have d2 : decide (900 < l.length) = false := decide_eq_false hlen
    have hok := cur_ok (m + 1) (by omega) (by omega) l
    obtain ⟨K0, hK0⟩ := rfind hok v
    have hK := hK0 K0 (Nat.le_refl _)
    obtain ⟨r1, r2, hf⟩ : ∃ r1 r2, findS (cur (m + 1) l) v = (r1, r2) := ⟨_, _, rfl⟩
    rw [hf] at hK
    have HF := Lib.hid hf
    have HOK := Lib.hid hok
    have HK := Lib.hid hK
    clear hok hK0 hK hf
    go_enter Try.func3, Try.ntmps3
    go_wp2_with fail
    refine (counted_z _ _ (m + 1) (by omega) (by omega) (by omega) L l lc (by omega) HR.out HW.out).mono ?_
    rintro e w1 ⟨bp, bs, A, c, rfl, hc, hm, hrd, hp1, hp2, hb⟩
    go_wp2_with fail
    refine (find_any _ bp bs _ (m + 1) hm.out HOK.out v).mono ?_
    rintro e w2 ⟨he, rfl⟩
    rw [HF.out] at he
    subst he
    go_wp2_with fail
    have hC := rd_C hrd.out (by omega) (by omega) hc
    refine (calls_of_args (show _ = #[.slice A (cur (m + 1) l).length c, .int .i64 v] by rw [HOK.out.2.2.1]) (lapidaryref05_Find.calls K0 A c _ _ _ _ w1 hC.1 hC.2 HK.out)).mono ?_
    rintro e w3 ⟨rfl, hd⟩
    have hb3 := Lib.hid (below_drawn hb.out hd)
    clear hC hd
    go_wp2_with (go_at_call 10; refine (known_calls _).mono ?_; rintro e w4 ⟨rfl, hb4⟩)
    go_ret
    exact ⟨rfl, hb3.out.trans (by first | (have := hb4; exact this.mono hb3.out.size) | exact (hb4.mono hb3.out.size))⟩

theorem wfu8 {x : Int} (h : (Lit.int .u8 x).wf = true) : 0 ≤ x ∧ x < 256 := by have := bounds_u8 h; omega
theorem wfu16 {x : Int} (h : (Lit.int .u16 x).wf = true) : 0 ≤ x ∧ x < 65536 := by have := bounds_u16 h; omega
theorem wfi64 {x : Int} (h : (Lit.int .i64 x).wf = true) : -9223372036854775808 ≤ x ∧ x < 9223372036854775808 := by have := bounds_i64 h; omega

theorem finds_row (w : World) (n0 : Int) (h0 : (Lit.int .u8 n0).wf = true) (L : Option Addr) (l : List Int) (lc : Nat) (hm : l.length ≤ maxLen) (hb : l.length * 2 ≤ 140737488351232) (hr : RdU w .u16 L l) (hw : ∀ x ∈ l, (Lit.int .u16 x).wf = true) (hc : l.length ≤ lc) (v : Int) (hv : (Lit.int .i64 v).wf = true) :
    Calls Try.prog 3 #[.int .u8 n0, .slice L l.length lc, .int .i64 v] w fun e w' => e = .returned (.bool true) ∧ Below w.heap.size w w' :=
  finds_walk w n0 (wfu8 h0) L l lc hm hr (fun x hx => wfu16 (hw x hx)) v
end Go.Proofs.Ytjegnmnojgglaaa.MW
