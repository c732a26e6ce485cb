/- What predict's numbers are as bytes, and back: the plain laws PredictBytes and PredictReads. -/
import Derived.Test.YtgkncgiemfbglaaVintBaseP
import Derived.Test.YtgkncgiemfbglaaPPrdx7
namespace Go.Proofs.Ytgkncgiemfbglaa.VB
open Go Go.Lib Go.RowKit Go.Proofs.Ytgkncgiemfbglaa.VM Go.Proofs.Ytgkncgiemfbglaa.PPrd Go.Proofs.YtgkncgiemfbglaaW.PrintWords Go.Proofs.YtgkncgiemfbglaaW.PrintLast Go.Proofs.YtgkncgiemfbglaaW.PrintMore
set_option linter.unusedVariables false
set_option linter.unusedSimpArgs false

theorem rzig_f {n : Int} (h : -9223372036854775808 ≤ n ∧ n < 9223372036854775808) : lapidaryref01_Zig.f n = some (zig n) := by
  unfold lapidaryref01_Zig.f zig
  by_cases h2 : n ≥ 0
  · rw [if_pos h2, if_pos h2]; congr 1; rw [IntKind.wrap_u64, IntKind.wrap_u64]; omega
  · rw [if_neg h2, if_neg (by omega)]; congr 1; rw [IntKind.wrap_u64, IntKind.wrap_u64, IntKind.wrap_u64]; unfold wrap64; omega

def getIntS (l : List Int) (a : Int) : Int × Int × Int := if (getS l a).2.2 = 0 then (zag (getS l a).1, (getS l a).2.1, 0) else (0, 0, (getS l a).2.2)

theorem getInt_ev (l : List Int) (a : Int) (hb : ∀ c ∈ l, 0 ≤ c ∧ c < 256) (hl : l.length ≤ 100000000000000) : Ev (fun k => vint_GetInt.f k l a) (getIntS l a) := by
  refine Ev.bind (get_ev l a hb hl) ?_
  unfold getIntS
  by_cases h : (getS l a).2.2 = 0
  · refine Ev.congr (f := fun _ => some _) (fun k => ?_) (Ev.now _)
    have hk := getS_ok (l := l) (a := a) (n := (getS l a).1) (e := (getS l a).2.1) hb (by rw [← h])
    rw [if_pos h, if_pos h, zag_f ⟨hk.2.2.2.1.1, hk.2.2.2.1.2⟩]
    rfl
  · refine Ev.congr (f := fun _ => some _) (fun k => ?_) (Ev.now _)
    rw [if_neg h, if_neg h]

theorem putInt_ev {n : Int} (h : -9223372036854775808 ≤ n ∧ n < 9223372036854775808) : Ev (fun k => vint_PutInt.f k n) (enc (zig n).toNat) := by
  have hz := zig_range h.1 h.2
  have := put_one (zig n).toNat (by omega)
  rw [show (((zig n).toNat : Nat) : Int) = zig n by omega] at this
  refine Ev.congr (fun k => ?_) (Ev.bind this (Ev.now _))
  unfold vint_PutInt.f
  rw [zig_f h]
  rfl

theorem rputInt_ev {n : Int} (h : -9223372036854775808 ≤ n ∧ n < 9223372036854775808) : Ev (fun k => lapidaryref01_PutInt.f k n) (enc (zig n).toNat) := by
  have hz := zig_range h.1 h.2
  have := rput_ev (zig n).toNat (by omega)
  rw [show (((zig n).toNat : Nat) : Int) = zig n by omega] at this
  refine Ev.congr (fun k => ?_) (Ev.bind this (Ev.now _))
  unfold lapidaryref01_PutInt.f
  rw [rzig_f h]
  rfl


def I64 (l : List Int) : Prop := ∀ n ∈ l, -9223372036854775808 ≤ n ∧ n < 9223372036854775808
def encI (l : List Int) : List Int := l.flatMap fun n => enc (zig n).toNat
theorem encI_cons (n : Int) (l : List Int) : encI (n :: l) = enc (zig n).toNat ++ encI l := by unfold encI; rw [List.flatMap_cons]
theorem encI_append (a b : List Int) : encI (a ++ b) = encI a ++ encI b := by unfold encI; rw [List.flatMap_append]
theorem zig_fits {n : Int} (h : -9223372036854775808 ≤ n ∧ n < 9223372036854775808) : (zig n).toNat < 18446744073709551616 := by have := zig_range h.1 h.2; omega
theorem encI_len : ∀ {l : List Int}, I64 l → (encI l).length ≤ 10 * l.length
  | [], _ => by simp [encI]
  | n :: l, h => by
    have h1 := enc_len10 (zig_fits (h n (List.mem_cons_self ..)))
    have h2 := encI_len (l := l) (fun x hx => h x (List.mem_cons_of_mem _ hx))
    rw [encI_cons, List.length_append, List.length_cons]
    omega
theorem encI_byte (l : List Int) : ∀ c ∈ encI l, 0 ≤ c ∧ c < 256 := by
  intro c hc
  unfold encI at hc
  obtain ⟨n, _, hn⟩ := List.mem_flatMap.1 hc
  exact enc_byte _ c hn
theorem rd_get {l : List Int} {i : Nat} (h : i < l.length) : rd l (i : Int) = l[i] := by unfold rd; rw [Int.toNat_natCast, List.getD_eq_getElem?_getD, List.getElem?_eq_getElem h]; rfl
theorem bytes_l0 (l : List Int) (hi : I64 l) (hl : l.length ≤ 1000) : ∀ (d i : Nat), l.length - i = d → i ≤ l.length → Ev (fun k => predict_Bytes.l0 k (encI (l.take i)) l (l.length : Int) (i : Int)) (encI l) := by
  intro d
  induction d with
  | zero =>
    intro i h hle
    obtain rfl : i = l.length := by omega
    refine Ev.step (f := fun _ => some (encI l)) (fun k => ?_) (Ev.now _)
    simp only [predict_Bytes.l0]
    rw [if_neg (by omega), List.take_length]
  | succ d ih =>
    intro i h hle
    obtain ⟨x, hxe⟩ : ∃ x, x = l[i]'(by omega) := ⟨_, rfl⟩
    have hx : -9223372036854775808 ≤ x ∧ x < 9223372036854775808 := by rw [hxe]; exact hi _ (List.getElem_mem _)
    have hrd : rd l (i : Int) = x := by rw [hxe]; exact rd_get (by omega)
    have htk : l.take (i + 1) = l.take i ++ [x] := by rw [hxe]; exact List.take_succ_eq_append_getElem (by omega)
    have h1 := enc_len10 (zig_fits hx)
    have h2 := encI_len (l := l.take i) (fun x hx => hi x (List.mem_of_mem_take hx))
    rw [List.length_take] at h2
    refine Ev.step (f := fun k => (vint_PutInt.f k x).bind fun t116 => (if (encI (l.take i)).length + t116.length < 140737488355328 then (predict_Bytes.l0 k (encI (l.take i) ++ t116) l (l.length : Int) ((i + 1 : Nat) : Int)) else none)) (fun k => ?_) (Ev.bind (putInt_ev hx) ?_)
    · simp only [predict_Bytes.l0]
      rw [if_pos (by omega), if_pos (by omega), if_pos (by omega), hrd, w64 (x := (i : Int) + 1) (by omega) (by omega)]
      rfl
    · simp only [if_pos (show (encI (l.take i)).length + (enc (zig x).toNat).length < 140737488355328 by omega)]
      have := ih (i + 1) (by omega) (by omega)
      rw [htk, encI_append] at this
      simpa [encI] using this
theorem bytes_ev {l : List Int} (hi : I64 l) (hl : l.length ≤ 1000) : Ev (fun k => predict_Bytes.f k l) (encI l) := bytes_l0 l hi hl _ 0 rfl (by omega)
theorem rbytes_l0 (l : List Int) (hi : I64 l) (hl : l.length ≤ 1000) : ∀ (d i : Nat), l.length - i = d → i ≤ l.length → Ev (fun k => lapidaryref14_Bytes.l0 k l (encI (l.take i)) (i : Int)) (encI l) := by
  intro d
  induction d with
  | zero =>
    intro i h hle
    obtain rfl : i = l.length := by omega
    refine Ev.step (f := fun _ => some (encI l)) (fun k => ?_) (Ev.now _)
    simp only [lapidaryref14_Bytes.l0]
    rw [if_neg (by omega), List.take_length]
  | succ d ih =>
    intro i h hle
    obtain ⟨x, hxe⟩ : ∃ x, x = l[i]'(by omega) := ⟨_, rfl⟩
    have hx : -9223372036854775808 ≤ x ∧ x < 9223372036854775808 := by rw [hxe]; exact hi _ (List.getElem_mem _)
    have hrd : rd l (i : Int) = x := by rw [hxe]; exact rd_get (by omega)
    have htk : l.take (i + 1) = l.take i ++ [x] := by rw [hxe]; exact List.take_succ_eq_append_getElem (by omega)
    have h1 := enc_len10 (zig_fits hx)
    have h2 := encI_len (l := l.take i) (fun x hx => hi x (List.mem_of_mem_take hx))
    rw [List.length_take] at h2
    refine Ev.step (f := fun k => (lapidaryref01_PutInt.f k x).bind fun t186 => (if (encI (l.take i)).length + t186.length < 140737488355328 then (lapidaryref14_Bytes.l0 k l (encI (l.take i) ++ t186) ((i + 1 : Nat) : Int)) else none)) (fun k => ?_) (Ev.bind (rputInt_ev hx) ?_)
    · simp only [lapidaryref14_Bytes.l0]
      rw [if_pos (by omega), if_pos (by omega), hrd, w64 (x := (i : Int) + 1) (by omega) (by omega)]
      rfl
    · simp only [if_pos (show (encI (l.take i)).length + (enc (zig x).toNat).length < 140737488355328 by omega)]
      have := ih (i + 1) (by omega) (by omega)
      rw [htk, encI_append] at this
      simpa [encI] using this
theorem rbytes_ev {l : List Int} (hi : I64 l) (hl : l.length ≤ 1000) : Ev (fun k => lapidaryref14_Bytes.f k l) (encI l) := rbytes_l0 l hi hl _ 0 rfl (by omega)
/-- Numbers are read from their bytes. -/
theorem read_enc : ∀ (xs : List Int), I64 xs → ∀ (ahead acc : List Int), (∀ c ∈ ahead, 0 ≤ c ∧ c < 256) → ahead.length + 10 * xs.length ≤ 1000000 → acc.length + xs.length ≤ 1000000 → Ev (fun k => predict_Read.l0 k (ahead ++ encI xs) acc (ahead.length : Int)) (acc ++ xs, 0)
  | [], _, ahead, acc, hb, hl, ha => by
    refine Ev.step (f := fun _ => some (acc, 0)) (fun k => ?_) (by rw [List.append_nil]; exact Ev.now _)
    simp only [predict_Read.l0]
    rw [if_neg (by simp [encI])]
  | x :: xs, h, ahead, acc, hb, hl, ha => by
    have hx := h x (List.mem_cons_self ..)
    have hz := zig_range hx.1 hx.2
    have h1 := enc_len10 (zig_fits hx)
    have hp := enc_pos (zig x).toNat
    have hg := getS_enc (zig x).toNat (zig_fits hx) ahead (encI xs)
    have hi2 : I64 xs := fun y hy => h y (List.mem_cons_of_mem _ hy)
    have h2 := encI_len hi2
    rw [List.length_cons] at hl ha
    have e : ahead ++ encI (x :: xs) = ahead ++ enc (zig x).toNat ++ encI xs := by rw [encI_cons, List.append_assoc]
    have hbb : ∀ c ∈ ahead ++ enc (zig x).toNat ++ encI xs, 0 ≤ c ∧ c < 256 := by
      intro c hc
      rcases List.mem_append.1 hc with hc | hc
      · rcases List.mem_append.1 hc with hc | hc
        · exact hb c hc
        · exact enc_byte _ c hc
      · exact encI_byte _ c hc
    have hgi : getIntS (ahead ++ enc (zig x).toNat ++ encI xs) (ahead.length : Int) = (x, ((ahead ++ enc (zig x).toNat).length : Int), 0) := by
      unfold getIntS
      rw [hg]
      simp only [if_true]
      rw [show (((zig x).toNat : Nat) : Int) = zig x by omega, zag_zig, List.length_append]
      rfl
    have hev := getInt_ev (ahead ++ enc (zig x).toNat ++ encI xs) (ahead.length : Int) hbb (by simp only [List.length_append]; omega)
    rw [hgi] at hev
    have ih := read_enc xs hi2 (ahead ++ enc (zig x).toNat) (acc ++ [x]) (fun c hc => hbb c (List.mem_append.2 (.inl hc))) (by rw [List.length_append]; omega) (by rw [List.length_append, List.length_singleton]; omega)
    rw [show acc ++ [x] ++ xs = acc ++ x :: xs by rw [List.append_assoc, List.singleton_append]] at ih
    rw [e]
    refine Ev.step (f := fun k => (vint_GetInt.f k (ahead ++ enc (zig x).toNat ++ encI xs) (ahead.length : Int)).bind fun bt147 => (if bt147.2.2 = 0 then (if acc.length < 17592186044416 then (predict_Read.l0 k (ahead ++ enc (zig x).toNat ++ encI xs) (acc ++ [bt147.1]) bt147.2.1) else none) else some (([] : List Int), bt147.2.2))) (fun k => ?_) (Ev.bind hev ?_)
    · simp only [predict_Read.l0]
      rw [if_pos (by simp only [List.length_append]; omega)]
    · simp only [if_true, if_pos (show acc.length < 17592186044416 by omega)]
      exact ih
theorem read_ev {l : List Int} (hi : I64 l) (hl : l.length ≤ 1000) : Ev (fun k => predict_Read.f k (encI l)) (l, 0) := by
  have := read_enc l hi [] [] (fun c hc => nomatch hc) (by simp; omega) (by simp; omega)
  rw [List.nil_append, List.nil_append] at this
  exact this
/-- What is cut short is missing some, or is fewer numbers. -/
theorem read_cut : ∀ (xs : List Int), I64 xs → ∀ (ahead acc : List Int) (j : Nat), j < (encI xs).length → (∀ c ∈ ahead, 0 ≤ c ∧ c < 256) → ahead.length + 10 * xs.length ≤ 1000000 → acc.length + xs.length ≤ 1000000 →
    Ev (fun k => predict_Read.l0 k (ahead ++ (encI xs).take j) acc (ahead.length : Int)) ([], 10) ∨ ∃ ys, ys.length < xs.length ∧ Ev (fun k => predict_Read.l0 k (ahead ++ (encI xs).take j) acc (ahead.length : Int)) (acc ++ ys, 0)
  | [], _, ahead, acc, j, hj, hb, hl, ha => by simp [encI] at hj
  | x :: xs, h, ahead, acc, j, hj, hb, hl, ha => by
    have hx := h x (List.mem_cons_self ..)
    have hz := zig_range hx.1 hx.2
    have h1 := enc_len10 (zig_fits hx)
    have hp := enc_pos (zig x).toNat
    have hi2 : I64 xs := fun y hy => h y (List.mem_cons_of_mem _ hy)
    have h2 := encI_len hi2
    rw [List.length_cons] at hl ha
    rw [encI_cons, List.length_append] at hj
    rw [encI_cons]
    by_cases hj0 : j = 0
    · subst hj0
      refine .inr ⟨[], by simp, Ev.step (f := fun _ => some (acc, 0)) (fun k => ?_) (by rw [List.append_nil]; exact Ev.now _)⟩
      simp only [predict_Read.l0]
      rw [if_neg (by simp)]
    · by_cases hje : j < (enc (zig x).toNat).length
      · rw [List.take_append_of_le_length (by omega)]
        have hlt : ((enc (zig x).toNat).take j).length = j := by rw [List.length_take]; omega
        have hd : (ahead ++ (enc (zig x).toNat).take j).drop ahead.length = (enc (zig x).toNat).take j := by rw [List.drop_append_of_le_length (Nat.le_refl _), List.drop_length]; rfl
        have hs := scan_short ((enc (zig x).toNat).take j) ahead.length (zig x).toNat 0 j hje (List.drop_zero ..) (by omega)
        rw [List.drop_zero] at hs
        have hg : getS (ahead ++ (enc (zig x).toNat).take j) (ahead.length : Int) = (0, 0, 10) := by
          rw [getS, if_neg (by omega), if_neg (by rw [List.length_append]; omega), Int.toNat_natCast, hd]
          exact hs
        have hgi : getIntS (ahead ++ (enc (zig x).toNat).take j) (ahead.length : Int) = (0, 0, 10) := by
          unfold getIntS
          rw [hg]
          rfl
        have hbb : ∀ c ∈ ahead ++ (enc (zig x).toNat).take j, 0 ≤ c ∧ c < 256 := by
          intro c hc
          rcases List.mem_append.1 hc with hc | hc
          · exact hb c hc
          · exact enc_byte _ c (List.mem_of_mem_take hc)
        have hev := getInt_ev (ahead ++ (enc (zig x).toNat).take j) (ahead.length : Int) hbb (by simp only [List.length_append]; omega)
        rw [hgi] at hev
        refine .inl (Ev.step (f := fun k => (vint_GetInt.f k (ahead ++ (enc (zig x).toNat).take j) (ahead.length : Int)).bind fun bt147 => (if bt147.2.2 = 0 then (if acc.length < 17592186044416 then (predict_Read.l0 k (ahead ++ (enc (zig x).toNat).take j) (acc ++ [bt147.1]) bt147.2.1) else none) else some (([] : List Int), bt147.2.2))) (fun k => ?_) (Ev.bind hev ?_))
        · simp only [predict_Read.l0]
          rw [if_pos (by rw [List.length_append]; omega)]
        · simp only [if_neg (show ¬ (10 : Int) = 0 by decide)]
          exact Ev.now _
      · obtain ⟨m, rfl⟩ : ∃ m, j = (enc (zig x).toNat).length + m := ⟨j - (enc (zig x).toNat).length, by omega⟩
        rw [List.take_length_add_append, ← List.append_assoc]
        have hbb : ∀ c ∈ ahead ++ enc (zig x).toNat ++ (encI xs).take m, 0 ≤ c ∧ c < 256 := by
          intro c hc
          rcases List.mem_append.1 hc with hc | hc
          · rcases List.mem_append.1 hc with hc | hc
            · exact hb c hc
            · exact enc_byte _ c hc
          · exact encI_byte _ c (List.mem_of_mem_take hc)
        have hg := getS_enc (zig x).toNat (zig_fits hx) ahead ((encI xs).take m)
        have hgi : getIntS (ahead ++ enc (zig x).toNat ++ (encI xs).take m) (ahead.length : Int) = (x, ((ahead ++ enc (zig x).toNat).length : Int), 0) := by
          unfold getIntS
          rw [hg]
          simp only [if_true]
          rw [show (((zig x).toNat : Nat) : Int) = zig x by omega, zag_zig, List.length_append]
          rfl
        have hev := getInt_ev (ahead ++ enc (zig x).toNat ++ (encI xs).take m) (ahead.length : Int) hbb (by simp only [List.length_append, List.length_take]; omega)
        rw [hgi] at hev
        have hstep : ∀ r, Ev (fun k => predict_Read.l0 k (ahead ++ enc (zig x).toNat ++ (encI xs).take m) (acc ++ [x]) ((ahead ++ enc (zig x).toNat).length : Int)) r → Ev (fun k => predict_Read.l0 k (ahead ++ enc (zig x).toNat ++ (encI xs).take m) acc (ahead.length : Int)) r := by
          intro r hr
          refine Ev.step (f := fun k => (vint_GetInt.f k (ahead ++ enc (zig x).toNat ++ (encI xs).take m) (ahead.length : Int)).bind fun bt147 => (if bt147.2.2 = 0 then (if acc.length < 17592186044416 then (predict_Read.l0 k (ahead ++ enc (zig x).toNat ++ (encI xs).take m) (acc ++ [bt147.1]) bt147.2.1) else none) else some (([] : List Int), bt147.2.2))) (fun k => ?_) (Ev.bind hev ?_)
          · simp only [predict_Read.l0]
            rw [if_pos (by simp only [List.length_append]; omega)]
          · simp only [if_true, if_pos (show acc.length < 17592186044416 by omega)]
            exact hr
        rcases read_cut xs hi2 (ahead ++ enc (zig x).toNat) (acc ++ [x]) m (by omega) (fun c hc => hbb c (List.mem_append.2 (.inl hc))) (by rw [List.length_append]; omega) (by rw [List.length_append, List.length_singleton]; omega) with hr | ⟨ys, hy, hr⟩
        · exact .inl (hstep _ hr)
        · refine .inr ⟨x :: ys, by rw [List.length_cons, List.length_cons]; omega, hstep _ ?_⟩
          rw [show acc ++ [x] ++ ys = acc ++ x :: ys by rw [List.append_assoc, List.singleton_append]] at hr
          exact hr
end Go.Proofs.Ytgkncgiemfbglaa.VB
