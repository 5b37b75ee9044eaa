/- Joined by wip/tools/shake.py for the claim of WholeTexts: NatB, NatC, NatD, NatE, NatG, NatY, NatF, WhoA, NatR, NatT, NatI, WhoB, WhoC, WhoLTextBack, NatU, WhoLTexts, LawWholeTexts. -/
import Derived.Test.YthnfmmaolkenkaaDoorJWholeTexts7
import Derived.Test.YthnfmmaolkenkaaDoorJWholeTexts4
import Derived.Test.YthnfmmaolkenkaaDoorJWholeTexts5
import Derived.Laws.BitsLemmas
import Derived.Laws.Bits64
import Derived.Test.YthnfmmaolkenkaaDoorJWholeTexts6
import Derived.Lib.BitFns
import Derived.Test.YthnfmmaolkenkaaDoorJWholeTexts2
import Derived.OpenShut
import Derived.Lib.IndexLaws
import Derived.Test.YthnfmmaolkenkaaDoorRows
import Derived.WalkKit
import Derived.Test.YthnfmmaolkenkaaDoorTie
import Derived.Test.YthnfmmaolkenkaaDoorCards
import Derived.SevenTiedAt
import Derived.Handed
import Derived.Lib.LaidIn
import Derived.Lib.LaidU8
import Derived.ProofKit
import Derived.ShutString
import Derived.ChangeOld
import Derived.Below
import Derived.SizedLaws
import Derived.Lib.SmallJoins
import Derived.ChangeSlices
/- What nat's functions compute, as numbers: the order, sums, differences, products, a number by a small one, moved bits. -/
namespace Go.Proofs.YthnfmmaolkenkaaDoor.V
set_option linter.unusedVariables false
set_option linter.unusedSimpArgs false
open Go.RowKit Go.Proofs.YthnfmmaolkenkaaDoor.PA Go.Proofs.YthnfmmaolkenkaaDoor.H Go.Proofs.YthnfmmaolkenkaaDoorW.PrintWords Go.Proofs.YthnfmmaolkenkaaDoorW.PrintLast Go.Proofs.YthnfmmaolkenkaaDoorW.PrintMore

theorem w64 {x : Int} (h0 : -9223372036854775808 ≤ x) (h1 : x ≤ 9223372036854775807) : wrap64 x = x := by unfold wrap64; omega
theorem w01 : wrap64 1 = 1 := w64 (by omega) (by omega)
theorem w11 : wrap64 2 = 2 := w64 (by omega) (by omega)
theorem w21 : wrap64 3 = 3 := w64 (by omega) (by omega)
theorem wm0 : wrap64 0 = 0 := w64 (by omega) (by omega)
theorem u64 {x : Int} (h0 : 0 ≤ x) (h1 : x < 18446744073709551616) : IntKind.u64.wrap x = x := by rw [IntKind.wrap_u64]; omega
theorem u64e (x : Int) : IntKind.u64.wrap x = x % 18446744073709551616 := IntKind.wrap_u64 x
theorem rd_get (l : List Int) (i : Nat) (h : i < l.length) : rd l (i : Int) = l[i] := by simp [rd, h]
theorem rd_D (l : List Int) (i : Nat) : rd l (i : Int) = l.getD i 0 := by simp [rd]
theorem Lim.getD {l : List Int} (h : Lim l) (i : Nat) : 0 ≤ l.getD i 0 ∧ l.getD i 0 < 4294967296 := by
  by_cases hi : i < l.length
  · have := h.get i hi
    simpa [List.getD_eq_getElem?_getD, hi] using this
  · rw [List.getD_eq_getElem?_getD, List.getElem?_eq_none (by omega)]
    simp
theorem norm_ev (l : List Int) (h : Lim l) (hn : l.length ≤ 1000000000000) : nat_Norm.f l = some (dig (val l)) := by
  unfold nat_Norm.f
  rw [if_pos hn]
  unfold normL
  rw [dropWhile_zeros l h]
theorem limb_ev (l : List Int) (i : Nat) (h : Lim l) : nat_limb.f l (i : Int) = some (l.getD i 0) := by
  have hg := h.getD i
  unfold nat_limb.f
  by_cases hi : i < l.length
  · rw [if_neg (by omega), if_pos (by omega), if_pos (by omega), rd_D, u64 hg.1 (by omega)]
  · rw [if_pos (by omega), List.getD_eq_getElem?_getD, List.getElem?_eq_none (by omega)]
    rfl
theorem sign_ev (n : Int) : nat_sign.f n = some (if n < 0 then -1 else if n > 0 then 1 else 0) := by
  unfold nat_sign.f
  split
  · rfl
  · split <;> rfl
/-- The order of two numbers. -/
def cmpI (a b : Int) : Int := if a < b then -1 else if b < a then 1 else 0
theorem val_lt_of_length {a b : List Int} (ha : Lim a) (hb : Lim b) (hl : a.length < b.length) (hne : ∀ h : b ≠ [], b.getLast h ≠ 0) : val a < val b := by
  have h1 := val_lt ha
  obtain ⟨b', x, rfl⟩ : ∃ b' x, b = b' ++ [x] := by
    have hb0 : b ≠ [] := by rintro rfl; simp at hl
    exact ⟨b.dropLast, b.getLast hb0, (List.dropLast_concat_getLast hb0).symm⟩
  have hx : x ≠ 0 := by simpa using hne (by simp)
  have hx0 := (hb x (by simp)).1
  rw [val_append]
  have h2 := val_nonneg hb.left
  have h3 : pw a.length ≤ pw b'.length := by
    simp at hl
    obtain ⟨d, hd⟩ := Nat.exists_eq_add_of_le (show a.length ≤ b'.length by omega)
    rw [hd, pw_add]
    have := pw_pos a.length
    have := pw_pos d
    calc pw a.length = pw a.length * 1 := by omega
      _ ≤ _ := Int.mul_le_mul_of_nonneg_left (by omega) (by omega)
  have h4 : pw b'.length * 1 ≤ pw b'.length * val [x] := Int.mul_le_mul_of_nonneg_left (by simp [val]; omega) (Int.le_of_lt (pw_pos _))
  omega
theorem cmp_l0 (a b : List Int) (ha : Lim a) (hb : Lim b) (hl : a.length = b.length) (hn : a.length ≤ 1000000000000) (d : Nat) (hd : d ≤ a.length) (he : a.drop d = b.drop d) :
    Ev (fun k => nat_Cmp.l0 k a b ((d : Int) - 1)) (cmpI (val a) (val b)) := by
  induction d with
  | zero =>
    simp only [List.drop_zero] at he
    refine Ev.step (f := fun _ => some _) (fun k => ?_) (Ev.now _)
    simp only [nat_Cmp.l0]
    rw [if_neg (by omega), he]
    unfold cmpI
    rw [if_neg (by omega), if_neg (by omega)]
  | succ d ih =>
    have hda : d < a.length := by omega
    have hdb : d < b.length := by omega
    have e0 : ((d + 1 : Nat) : Int) - 1 = (d : Int) := by omega
    rw [e0]
    have xa := ha.get d hda
    have xb := hb.get d hdb
    by_cases hx : a[d] = b[d]
    · refine Ev.step (fun k => ?_) (ih (by omega) (by rw [List.drop_eq_getElem_cons hda, List.drop_eq_getElem_cons hdb, he, hx]))
      simp only [nat_Cmp.l0]
      rw [if_pos (by omega), if_pos (by omega), if_pos (by omega), if_pos (by omega), rd_get _ _ hda, rd_get _ _ hdb, if_pos hx, w64 (by omega) (by omega)]
    · refine Ev.step (f := fun _ => some _) (fun k => ?_) (Ev.now _)
      simp only [nat_Cmp.l0]
      rw [if_pos (by omega), if_pos (by omega), if_pos (by omega), if_pos (by omega), rd_get _ _ hda, rd_get _ _ hdb, if_neg hx, w64 (x := a[d]) (by omega) (by omega), w64 (x := b[d]) (by omega) (by omega), w64 (by omega) (by omega), sign_ev]
      simp only [Option.bind_some]
      have e1 := val_take_drop a (d + 1) hd
      have e2 := val_take_drop b (d + 1) (by omega)
      rw [he] at e1
      rw [val_take_succ a d hda] at e1
      rw [val_take_succ b d hdb] at e2
      have b1 := val_nonneg (ha.take d)
      have b2 := val_nonneg (hb.take d)
      have b3 := val_lt (ha.take d)
      have b4 := val_lt (hb.take d)
      rw [List.length_take, Nat.min_eq_left (by omega)] at b3 b4
      unfold cmpI
      congr 1
      by_cases hlt : a[d] < b[d]
      · have h5 : pw d * (a[d] + 1) ≤ pw d * b[d] := Int.mul_le_mul_of_nonneg_left (by omega) (Int.le_of_lt (pw_pos _))
        rw [Int.mul_add, Int.mul_one] at h5
        rw [if_pos (by omega), if_pos (by omega)]
      · have h5 : pw d * (b[d] + 1) ≤ pw d * a[d] := Int.mul_le_mul_of_nonneg_left (by omega) (Int.le_of_lt (pw_pos _))
        rw [Int.mul_add, Int.mul_one] at h5
        rw [if_neg (by omega), if_pos (by omega), if_neg (by omega), if_pos (by omega)]
theorem dig_length (l : List Int) (h : Lim l) : (dig (val l)).length ≤ l.length := dig_length_le (val_nonneg h) (val_lt h)
theorem cmp_ev (a b : List Int) (ha : Lim a) (hb : Lim b) (hna : a.length ≤ 1000000000000) (hnb : b.length ≤ 1000000000000) : Ev (fun k => nat_Cmp.f k a b) (cmpI (val a) (val b)) := by
  have va := val_nonneg ha
  have vb := val_nonneg hb
  have la := dig_length a ha
  have lb := dig_length b hb
  by_cases hl : (dig (val a)).length = (dig (val b)).length
  · have := cmp_l0 (dig (val a)) (dig (val b)) (dig_lim _) (dig_lim _) hl (by omega) _ (Nat.le_refl _) (by rw [List.drop_eq_nil_of_le (by omega), List.drop_eq_nil_of_le (by omega)])
    rw [val_dig va, val_dig vb] at this
    refine Ev.congr (fun k => ?_) this
    unfold nat_Cmp.f
    rw [norm_ev a ha hna, norm_ev b hb hnb]
    simp only [Option.bind_some]
    rw [if_pos (by omega), w64 (by omega) (by omega)]
  · refine Ev.congr (f := fun _ => some _) (fun k => ?_) (Ev.now _)
    unfold nat_Cmp.f
    rw [norm_ev a ha hna, norm_ev b hb hnb]
    simp only [Option.bind_some]
    rw [if_neg (by omega), w64 (by omega) (by omega), sign_ev]
    simp only [Option.bind_some]
    congr 1
    unfold cmpI
    by_cases hlt : (dig (val a)).length < (dig (val b)).length
    · have := val_lt_of_length (dig_lim _) (dig_lim _) hlt (fun h => dig_last h)
      rw [val_dig va, val_dig vb] at this
      rw [if_pos (by omega), if_pos (by omega)]
    · have := val_lt_of_length (dig_lim _) (dig_lim _) (show (dig (val b)).length < (dig (val a)).length by omega) (fun h => dig_last h)
      rw [val_dig va, val_dig vb] at this
      rw [if_neg (by omega), if_pos (by omega), if_neg (by omega), if_pos (by omega)]
theorem of_ev (n : Int) (h0 : 0 ≤ n) (h1 : n < 18446744073709551616) : nat_Of.f n = some (dig n) := by
  unfold nat_Of.f
  rw [norm_ev _ (Lim.cons (by omega) (by omega) (Lim.cons (by omega) (by omega) Lim.nil)) (by simp)]
  simp only [Option.bind_some, val]
  congr 2
  omega
theorem pw_le_pw {a b : Nat} (h : a ≤ b) : pw a ≤ pw b := by
  obtain ⟨d, rfl⟩ := Nat.exists_eq_add_of_le h
  rw [pw_add]
  have := pw_pos a
  have := pw_pos d
  calc pw a = pw a * 1 := by omega
    _ ≤ _ := Int.mul_le_mul_of_nonneg_left (by omega) (by omega)

/-! ### sums -/
theorem step_add {P V A Bv c x y q r : Int} (h : V + P * c = A + Bv) (e : r + 4294967296 * q = c + (x + y)) : V + P * r + (4294967296 * P) * q = A + P * x + (Bv + P * y) := by grind
theorem add_l0 (a b : List Int) (ha : Lim a) (hb : Lim b) (n : Nat) (hna : a.length < n) (hnb : b.length < n) (hn : n ≤ 1000000000000) (d : Nat) : ∀ (i : Nat) (out : List Int) (c : Int), i + d = n → out.length = n → Lim out → 0 ≤ c → c ≤ 1 → val (out.take i) + pw i * c = val (a.take i) + val (b.take i) →
    Ev (fun k => nat_Add.l0 k a b out c (n : Int) (i : Int)) (dig (val a + val b)) := by
  induction d with
  | zero =>
    intro i out c hi ho hL c0 c1 hv
    obtain rfl : i = n := by omega
    refine Ev.step (f := fun _ => some _) (fun k => ?_) (Ev.now _)
    simp only [nat_Add.l0]
    rw [if_neg (by omega), norm_ev out hL (by omega)]
    simp only [Option.bind_some]
    rw [List.take_of_length_le (by omega), List.take_of_length_le (by omega), List.take_of_length_le (by omega)] at hv
    have h1 := val_lt ha
    have h2 := val_lt hb
    have h3 := val_nonneg hL
    obtain ⟨m, rfl⟩ : ∃ m, i = m + 1 := ⟨i - 1, by omega⟩
    have h4 := pw_le_pw (show a.length ≤ m by omega)
    have h5 := pw_le_pw (show b.length ≤ m by omega)
    have h6 := pw_succ m
    have h7 := pw_pos m
    have hc : c = 0 := by
      by_cases hc : c = 0
      · exact hc
      · have : c = 1 := by omega
        subst this
        omega
    subst hc
    congr 2
    omega
  | succ d ih =>
    intro i out c hi ho hL c0 c1 hv
    have ga := ha.getD i
    have gb := hb.getD i
    have hio : i < out.length := by omega
    refine Ev.step (fun k => ?_) (ih (i + 1) (out.set i ((c + (a.getD i 0 + b.getD i 0)) % 4294967296)) ((c + (a.getD i 0 + b.getD i 0)) / 4294967296) (by omega) (by simpa using ho) (hL.set i (by omega) (by omega)) (by omega) (by omega) ?_)
    · simp only [nat_Add.l0]
      rw [if_pos (by omega), limb_ev a i ha, limb_ev b i hb]
      simp only [Option.bind_some]
      rw [if_pos (by omega), if_pos (by omega), u64 (x := a.getD i 0 + b.getD i 0) (by omega) (by omega), u64 (by omega) (by omega), w64 (by omega) (by omega), Int.toNat_natCast]
      rfl
    · rw [val_set_take _ _ _ hio, val_take_getD a, val_take_getD b, pw_succ]
      exact step_add hv (by omega)
theorem mx_len (a b : List Int) : mx (a.length : Int) (b.length : Int) = ((max a.length b.length : Nat) : Int) := by unfold mx; split <;> omega
theorem add_ev (a b : List Int) (ha : Lim a) (hb : Lim b) (hna : a.length < 1000000000) (hnb : b.length < 1000000000) : Ev (fun k => nat_Add.f k a b) (dig (val a + val b)) := by
  have := add_l0 a b ha hb (max a.length b.length + 1) (by omega) (by omega) (by omega) (max a.length b.length + 1) 0 (List.replicate (max a.length b.length + 1) 0) 0 (by omega) (by simp) (Lim.zeros _) (by omega) (by omega) (by simp [val])
  refine Ev.congr (fun k => ?_) this
  unfold nat_Add.f
  rw [mx_len, w64 (by omega) (by omega), if_pos (by omega), if_pos (by omega)]
  congr 1 <;> omega

end Go.Proofs.YthnfmmaolkenkaaDoor.V
/- What nat's products, and a number by a small one, and moved bits are, as numbers. -/
namespace Go.Proofs.YthnfmmaolkenkaaDoor.V
set_option linter.unusedVariables false
set_option linter.unusedSimpArgs false
open Go.RowKit Go.Proofs.YthnfmmaolkenkaaDoor.PA Go.Proofs.YthnfmmaolkenkaaDoor.H Go.Proofs.YthnfmmaolkenkaaDoorW.PrintWords Go.Proofs.YthnfmmaolkenkaaDoorW.PrintLast Go.Proofs.YthnfmmaolkenkaaDoorW.PrintMore

theorem mul_bd {x y X Y : Int} (h0 : 0 ≤ x) (h1 : x ≤ X) (g0 : 0 ≤ y) (g1 : y ≤ Y) : 0 ≤ x * y ∧ x * y ≤ X * Y :=
  ⟨Int.mul_nonneg h0 g0, Int.mul_le_mul h1 g1 g0 (by omega)⟩
theorem mul_bd32 {x y : Int} (hx : 0 ≤ x ∧ x < 4294967296) (hy : 0 ≤ y ∧ y < 4294967296) : 0 ≤ x * y ∧ x * y ≤ 18446744065119617025 :=
  mul_bd hx.1 (show x ≤ 4294967295 by omega) hy.1 (show y ≤ 4294967295 by omega)
theorem getD_get (l : List Int) (i : Nat) (h : i < l.length) : l.getD i 0 = l[i] := by simp [List.getD_eq_getElem?_getD, h]
theorem getD_set_ne (l : List Int) (i p : Nat) (x : Int) (h : i ≠ p) : (l.set i x).getD p 0 = l.getD p 0 := by
  simp [List.getD_eq_getElem?_getD, h]
/-- Noughts from a place on. -/
def Zf (l : List Int) (n : Nat) : Prop := ∀ p, n ≤ p → l.getD p 0 = 0
theorem Zf.set {l : List Int} {n i : Nat} {x : Int} (h : Zf l n) (hi : i < n) : Zf (l.set i x) n := fun p hp => by
  rw [getD_set_ne _ _ _ _ (by omega)]; exact h p hp
theorem Zf.zeros (m n : Nat) : Zf (List.replicate m 0) n := fun p _ => by
  rw [List.getD_eq_getElem?_getD]
  by_cases h : p < m <;> simp [h]
theorem step_mul {W V0 Pi pj P x y c q r vb o : Int} (h : W + P * c = V0 + Pi * x * vb) (e : r + 4294967296 * q = c + (x * y + o)) (hP : P = Pi * pj) : W + P * (r - o) + (4294967296 * P) * q = V0 + Pi * x * (vb + pj * y) := by
  subst hP
  grind
theorem mul_l1 (a b : List Int) (ha : Lim a) (hb : Lim b) (hna : a.length < 1000000000) (hnb : b.length < 1000000000) (i : Nat) (hi : i < a.length) (x V0 : Int) (hx : 0 ≤ x ∧ x < 4294967296) (r : List Int)
    (hc : ∀ out, out.length = a.length + b.length → Lim out → val out = V0 + pw i * x * val b → Zf out (i + 1 + b.length) → Ev (fun k => nat_Mul.l0 k b out a (a.length : Int) ((i + 1 : Nat) : Int)) r) (d : Nat) : ∀ (j : Nat) (out : List Int) (c : Int), j + d = b.length → out.length = a.length + b.length → Lim out → 0 ≤ c → c < 4294967296 → val out + pw (i + j) * c = V0 + pw i * x * val (b.take j) → Zf out (i + b.length) →
    Ev (fun k => nat_Mul.l1 k b out (i : Int) x c a (a.length : Int) (i : Int) (b.length : Int) (j : Int)) r := by
  induction d with
  | zero =>
    intro j out c hj ho hL c0 c1 hv hz
    obtain rfl : j = b.length := by omega
    have hp : i + b.length < out.length := by omega
    refine Ev.step (fun k => ?_) (hc (out.set (i + b.length) c) (by simpa using ho) (hL.set _ c0 c1) ?_ ?_)
    · simp only [nat_Mul.l1]
      rw [if_neg (by omega), w64 (by omega) (by omega), if_pos (by omega), if_pos (by omega), w64 (by omega) (by omega), show ((i : Int) + (b.length : Int)).toNat = i + b.length by omega, show c % 4294967296 = c by omega]
      rfl
    · have h0 := hz (i + b.length) (Nat.le_refl _)
      rw [getD_get _ _ hp] at h0
      rw [val_set _ _ _ hp, h0]
      rw [List.take_of_length_le (by omega)] at hv
      rw [Int.sub_zero]; exact hv
    · intro p hpp
      rw [getD_set_ne _ _ _ _ (by omega)]
      exact hz p (by omega)
  | succ d ih =>
    intro j out c hj ho hL c0 c1 hv hz
    have hjb : j < b.length := by omega
    have hp : i + j < out.length := by omega
    have gb := hb.get j hjb
    have go := hL.get (i + j) hp
    have hm := mul_bd32 hx gb
    refine Ev.step (fun k => ?_) (ih (j + 1) (out.set (i + j) ((c + (x * b[j] + out[i + j])) % 4294967296)) ((c + (x * b[j] + out[i + j])) / 4294967296) (by omega) (by simpa using ho) (hL.set _ (by omega) (by omega)) (by omega) (by omega) ?_ (hz.set (by omega)))
    · simp only [nat_Mul.l1]
      rw [if_pos (by omega), if_pos (by omega), if_pos (by omega), w64 (x := (i : Int) + (j : Int)) (by omega) (by omega), if_pos (by omega), if_pos (by omega), show ((i : Int) + (j : Int)) = ((i + j : Nat) : Int) by omega, rd_get _ _ hp, rd_get _ _ hjb, u64 (x := x) (by omega) (by omega), u64 (x := b[j]) (by omega) (by omega), u64 (x := x * b[j]) (by omega) (by omega), u64 (x := out[i + j]) (by omega) (by omega), u64 (x := x * b[j] + out[i + j]) (by omega) (by omega), u64 (by omega) (by omega), w64 (by omega) (by omega), Int.toNat_natCast]
      rfl
    · rw [val_set _ _ _ hp, val_take_succ _ _ hjb, ← Nat.add_assoc, pw_succ]
      exact step_mul hv (by omega) (pw_add i j)
theorem mul_l0 (a b : List Int) (ha : Lim a) (hb : Lim b) (hna : a.length < 1000000000) (hnb : b.length < 1000000000) (d : Nat) : ∀ (i : Nat) (out : List Int), i + d = a.length → out.length = a.length + b.length → Lim out → val out = val (a.take i) * val b → Zf out (i + b.length) →
    Ev (fun k => nat_Mul.l0 k b out a (a.length : Int) (i : Int)) (dig (val a * val b)) := by
  induction d with
  | zero =>
    intro i out hi ho hL hv hz
    obtain rfl : i = a.length := by omega
    refine Ev.step (f := fun _ => some _) (fun k => ?_) (Ev.now _)
    simp only [nat_Mul.l0]
    rw [if_neg (by omega), norm_ev out hL (by omega), hv, List.take_of_length_le (by omega)]
    rfl
  | succ d ih =>
    intro i out hi ho hL hv hz
    have hia : i < a.length := by omega
    have ga := ha.get i hia
    refine Ev.step (fun k => ?_) (mul_l1 a b ha hb hna hnb i hia a[i] (val (a.take i) * val b) ga _ (fun out' h1 h2 h3 h4 => ih (i + 1) out' (by omega) h1 h2 ?_ h4) b.length 0 out 0 (by omega) ho hL (by omega) (by omega) ?_ hz)
    · simp only [nat_Mul.l0]
      rw [if_pos (by omega), if_pos (by omega), if_pos (by omega), rd_get _ _ hia]
      rfl
    · rw [h3, val_take_succ _ _ hia]; grind
    · simp [hv, val]
theorem mul_ev (a b : List Int) (ha : Lim a) (hb : Lim b) (hna : a.length < 1000000000) (hnb : b.length < 1000000000) : Ev (fun k => nat_Mul.f k a b) (dig (val a * val b)) := by
  refine Ev.congr (fun k => ?_) (mul_l0 a b ha hb hna hnb a.length 0 (List.replicate (a.length + b.length) 0) (by omega) (by simp) (Lim.zeros _) (by simp [val, val_zeros]) (Zf.zeros _ _))
  unfold nat_Mul.f
  rw [w64 (by omega) (by omega), if_pos (by omega), if_pos (by omega), show ((a.length : Int) + (b.length : Int)).toNat = a.length + b.length by omega]
  rfl

/-! ### a number by a small one -/
theorem wraps_u64 (n : Int) (h0 : 0 ≤ n) (h1 : n < 2 ^ 64) : IntKind.u64.wrap n = n := u64 h0 (by omega)
theorem or_join {x y : Int} (hx : 0 ≤ x ∧ x < 4294967296) (hy : 0 ≤ y ∧ y < 4294967296) : Go.bits .or .u64 (x * 4294967296) y = x * 4294967296 + y :=
  bits_join .u64 64 (by decide) wraps_u64 32 _ _ (by omega) (by omega) (by omega) hy.1 (by omega) (by omega)
theorem div_unique {a b q r : Int} (hb : 0 < b) (h : q * b + r = a) (h0 : 0 ≤ r) (h1 : r < b) : a / b = q ∧ a % b = r :=
  (Int.ediv_emod_unique hb).2 ⟨by rw [← h, Int.mul_comm]; omega, h0, h1⟩
theorem drop_set_self (l : List Int) (i : Nat) (x : Int) (h : i < l.length) : (l.set i x).drop i = x :: l.drop (i + 1) := by
  rw [List.drop_eq_getElem_cons (by simpa using h)]
  simp [List.drop_set_of_lt]
theorem small_l0 (a : List Int) (n : Int) (ha : Lim a) (hn0 : 0 < n) (hn1 : n ≤ 4294967296) (hna : a.length < 1000000000) (d : Nat) : ∀ (out : List Int) (r : Int), d ≤ a.length → out.length = a.length → Lim out → 0 ≤ r → r < n → val (out.drop d) * n + r = val (a.drop d) →
    Ev (fun k => nat_small.l0 k a n out r ((d : Int) - 1)) (dig (val a / n), val a % n) := by
  induction d with
  | zero =>
    intro out r hd ho hL r0 r1 hv
    refine Ev.step (f := fun _ => some _) (fun k => ?_) (Ev.now _)
    simp only [nat_small.l0]
    rw [if_neg (by omega), norm_ev out hL (by omega)]
    simp only [List.drop_zero] at hv
    obtain ⟨e1, e2⟩ := div_unique hn0 hv r0 r1
    rw [e1, e2]
    rfl
  | succ d ih =>
    intro out r hd ho hL r0 r1 hv
    have hda : d < a.length := by omega
    have hdo : d < out.length := by omega
    have ga := ha.get d hda
    have ho1 : Go.bits .or .u64 (IntKind.u64.wrap (r * 4294967296)) (IntKind.u64.wrap a[d]) = r * 4294967296 + a[d] := by
      rw [u64 (by omega) (by omega), u64 (by omega) (by omega)]
      exact or_join ⟨r0, by omega⟩ ga
    have hX0 : 0 ≤ r * 4294967296 + a[d] := by omega
    have hq0 : 0 ≤ (r * 4294967296 + a[d]) / n := Int.ediv_nonneg hX0 (by omega)
    have hq1 : (r * 4294967296 + a[d]) / n < 4294967296 := by
      apply Int.ediv_lt_of_lt_mul hn0
      have : (r + 1) * 4294967296 ≤ n * 4294967296 := Int.mul_le_mul_of_nonneg_right (by omega) (by omega)
      omega
    have hm0 := Int.emod_nonneg (r * 4294967296 + a[d]) (show n ≠ 0 by omega)
    have hm1 := Int.emod_lt_of_pos (r * 4294967296 + a[d]) hn0
    have hqr := Int.mul_ediv_add_emod (r * 4294967296 + a[d]) n
    refine Ev.step (fun k => ?_) (ih (out.set d ((r * 4294967296 + a[d]) / n)) ((r * 4294967296 + a[d]) % n) (by omega) (by simpa using ho) (hL.set _ hq0 hq1) hm0 hm1 ?_)
    · simp only [nat_small.l0]
      have e : ((d + 1 : Nat) : Int) - 1 = (d : Int) := by omega
      rw [e, if_pos (by omega), if_pos (by omega), if_pos (by omega), if_neg (by omega), if_pos (by omega), rd_get _ _ hda, ho1, Int.tdiv_eq_ediv_of_nonneg hX0, Int.tmod_eq_emod_of_nonneg hX0, u64 hq0 (by omega), Int.emod_eq_of_lt hq0 hq1, w64 (by omega) (by omega), Int.toNat_natCast]
    · rw [drop_set_self _ _ _ hdo, val_drop_cons _ _ hda]
      simp only [val]
      rw [← hv]
      generalize (r * 4294967296 + a[d]) / n = q at *
      generalize (r * 4294967296 + a[d]) % n = s at *
      grind
theorem small_ev (a : List Int) (n : Int) (ha : Lim a) (hn0 : 0 < n) (hn1 : n ≤ 4294967296) (hna : a.length < 1000000000) : Ev (fun k => nat_small.f k a n) (dig (val a / n), val a % n) := by
  refine Ev.congr (fun k => ?_) (small_l0 a n ha hn0 hn1 hna a.length (List.replicate a.length 0) 0 (Nat.le_refl _) (by simp) (Lim.zeros _) (by omega) (by omega) (by rw [List.drop_eq_nil_of_le (by simp), List.drop_eq_nil_of_le (by omega)]; simp [val]))
  unfold nat_small.f
  rw [if_pos (by omega), if_pos (by omega), w64 (by omega) (by omega), Int.toNat_natCast]

/-! ### moved bits -/
theorem wraps_u32 (n : Int) (h0 : 0 ≤ n) (h1 : n < 2 ^ 32) : IntKind.u32.wrap n = n := by rw [IntKind.wrap_u32]; omega
theorem or_comm_ (k : IntKind) (x y : Int) : Go.bits .or k x y = Go.bits .or k y x := by
  simp only [Go.bits, BitVec.or_comm]
theorem p_pos (n : Nat) : (0 : Int) < 2 ^ n := Int.pow_pos (by omega)
theorem p_split {n : Nat} (hn : n ≤ 32) : (2 : Int) ^ n * 2 ^ (32 - n) = 4294967296 := by
  rw [← Int.pow_add, show n + (32 - n) = 32 by omega]; rfl
theorem p_le {n : Nat} (hn : n ≤ 31) : (2 : Int) ^ n ≤ 2147483648 := by
  have := Nat.pow_le_pow_right (n := 2) (by omega) hn
  have e : (2 : Int) ^ n = ((2 ^ n : Nat) : Int) := by simp
  omega
theorem or_low {n : Nat} (hn : n ≤ 31) {x y : Int} (hx0 : 0 ≤ x) (hx1 : x < 2 ^ n) (hy0 : 0 ≤ y) (hy1 : y < 4294967296) (hy : y % 2 ^ n = 0) : Go.bits .or .u32 x y = x + y := by
  have := p_le hn
  rw [or_comm_, bits_join .u32 32 (by decide) wraps_u32 n y x hy0 hy (by omega) hx0 hx1 (by omega)]
  omega
theorem shl_u64 (x : Int) (n : Nat) (hn : n ≤ 31) (hx : 0 ≤ x ∧ x < 4294967296) : shl .u64 x (n : Int) = x * 2 ^ n ∧ 0 ≤ x * 2 ^ n ∧ x * 2 ^ n < 9223372036854775808 := by
  have h1 := p_pos n
  have h2 := p_le hn
  have h3 := mul_bd hx.1 (show x ≤ 4294967295 by omega) (Int.le_of_lt h1) h2
  refine ⟨?_, h3.1, by omega⟩
  unfold shl
  rw [Int.toNat_natCast, Nat.min_eq_left (by simp [IntKind.bits]; omega), u64 h3.1 (by omega)]
theorem mulmod_p {n : Nat} (hn : n ≤ 31) (x : Int) : (x * 2 ^ n) % 4294967296 % 2 ^ n = 0 := by
  rw [Int.emod_emod_of_dvd _ ⟨2 ^ (32 - n), (p_split (by omega)).symm⟩, Int.mul_emod_left]
theorem left_l0 (a : List Int) (n : Nat) (ha : Lim a) (hn : n ≤ 31) (hna : a.length < 1000000000) (d : Nat) : ∀ (i : Nat) (out : List Int), i + d = a.length → out.length = a.length + 1 → Lim out → out.getD i 0 < 2 ^ n → val (out.take (i + 1)) = val (a.take i) * 2 ^ n →
    ∃ o, Ev (fun k => nat_left.l0 k (n : Int) out a (a.length : Int) (i : Int)) o ∧ o.length = a.length + 1 ∧ Lim o ∧ val o = val a * 2 ^ n := by
  have hp := p_pos n
  have hp1 := p_le hn
  induction d with
  | zero =>
    intro i out hi ho hL h1 hv
    obtain rfl : i = a.length := by omega
    rw [List.take_of_length_le (by omega), List.take_of_length_le (by omega)] at hv
    refine ⟨out, Ev.step (f := fun _ => some _) (fun k => ?_) (Ev.now _), ho, hL, hv⟩
    simp only [nat_left.l0]
    rw [if_neg (by omega)]
  | succ d ih =>
    intro i out hi ho hL h1 hv
    have hia : i < a.length := by omega
    have hio : i < out.length := by omega
    have hio' : i + 1 < out.length := by omega
    have ga := ha.get i hia
    have go := hL.get i hio
    rw [getD_get _ _ hio] at h1
    obtain ⟨s1, s2, s3⟩ := shl_u64 a[i] n hn ga
    have hlow := mulmod_p hn a[i]
    have hor := or_low hn go.1 h1 (show 0 ≤ (a[i] * 2 ^ n) % 4294967296 by omega) (by omega) hlow
    have hq : (a[i] * 2 ^ n) / 4294967296 < 2 ^ n := by
      apply Int.ediv_lt_of_lt_mul (by omega)
      rw [Int.mul_comm (a[i])]
      exact Int.mul_lt_mul_of_pos_left ga.2 hp
    have hsum : out[i] + (a[i] * 2 ^ n) % 4294967296 < 4294967296 := by
      -- the low part is a multiple of 2^n below 2^32
      have e := Int.mul_ediv_add_emod ((a[i] * 2 ^ n) % 4294967296) (2 ^ n)
      rw [hlow] at e
      have hs := p_split (n := n) (by omega)
      have hs0 := p_pos (32 - n)
      have : (a[i] * 2 ^ n) % 4294967296 / 2 ^ n < 2 ^ (32 - n) := by
        apply Int.ediv_lt_of_lt_mul hp
        rw [Int.mul_comm (2 ^ (32 - n)), hs]; omega
      have h5 : 2 ^ n * ((a[i] * 2 ^ n) % 4294967296 / 2 ^ n + 1) ≤ 2 ^ n * 2 ^ (32 - n) := Int.mul_le_mul_of_nonneg_left (by omega) (Int.le_of_lt hp)
      rw [Int.mul_add, Int.mul_one] at h5
      omega
    have hstep := fun o' h2 h3 h4 h5 => ih (i + 1) o' (by omega) h2 h3 h4 h5
    obtain ⟨o, ho1, ho2, ho3, ho4⟩ := hstep ((out.set i (out[i] + (a[i] * 2 ^ n) % 4294967296)).set (i + 1) ((a[i] * 2 ^ n) / 4294967296)) (by simpa using ho) ((hL.set i (by omega) hsum).set (i + 1) (by omega) (by omega)) (by rw [getD_get _ _ (by simpa using hio')]; simpa using hq) (by
      rw [val_set_take _ _ _ (by simpa using hio'), val_set_take _ _ _ hio]
      rw [val_take_succ _ _ hio] at hv
      rw [val_take_succ _ _ hia, pw_succ]
      have e := Int.mul_ediv_add_emod (a[i] * 2 ^ n) 4294967296
      generalize a[i] * 2 ^ n / 4294967296 = q at *
      generalize a[i] * 2 ^ n % 4294967296 = r at *
      grind)
    refine ⟨o, Ev.step (fun k => ?_) ho1, ho2, ho3, ho4⟩
    simp only [nat_left.l0]
    rw [if_pos (by omega), if_pos (by omega), if_pos (by omega), if_pos (by omega), if_pos (by omega), w64 (by omega) (by omega), if_pos (by omega), if_pos (by omega), rd_get _ _ hio, rd_get _ _ hia, u64 (x := a[i]) ga.1 (by omega), s1, hor, Int.toNat_natCast, show ((i : Int) + 1).toNat = i + 1 by omega, Int.emod_eq_of_lt (a := a[i] * 2 ^ n / 4294967296) (by omega) (by omega)]
    rfl
theorem left_ev (a : List Int) (n : Nat) (ha : Lim a) (hn : n ≤ 31) (hna : a.length < 1000000000) : ∃ o, Ev (fun k => nat_left.f k a (n : Int)) o ∧ o.length = a.length + 1 ∧ Lim o ∧ val o = val a * 2 ^ n := by
  obtain ⟨o, h1, h2⟩ := left_l0 a n ha hn hna a.length 0 (List.replicate (a.length + 1) 0) (by omega) (by simp) (Lim.zeros _) (by have := p_pos n; simp; exact this) (by simp [val, List.replicate_succ])
  refine ⟨o, Ev.congr (fun k => ?_) h1, h2⟩
  unfold nat_left.f
  rw [w64 (by omega) (by omega), if_pos (by omega), if_pos (by omega), show ((a.length : Int) + 1).toNat = a.length + 1 by omega]
  rfl
theorem shr_u64 (x : Int) (n : Nat) (hn : n ≤ 31) : shr .u64 x (n : Int) = x / 2 ^ n := by
  unfold shr
  rw [Int.toNat_natCast, Nat.min_eq_left (by simp [IntKind.bits]; omega)]
/-- One limb of a number moved down. -/
theorem right_limb {p s X a : Int} (hp : 0 < p) (hs : 0 < s) (hps : p * s = 4294967296) (hX : 0 ≤ X ∧ X < 4294967296) (ha : 0 ≤ a ∧ a < 4294967296) : ((X * 4294967296 + a) / p % 4294967296) * p = (X % p) * 4294967296 + (a - a % p) ∧ 0 ≤ (X * 4294967296 + a) / p % 4294967296 ∧ (X * 4294967296 + a) / p % 4294967296 < 4294967296 := by
  have e1 : X * 4294967296 + a = a + p * (X * s) := by rw [← hps]; grind
  have e2 : (X * 4294967296 + a) / p = a / p + X * s := by rw [e1, Int.add_mul_ediv_left _ _ (by omega)]
  have e3 := Int.mul_ediv_add_emod X p
  have e4 := Int.mul_ediv_add_emod a p
  have m0 := Int.emod_nonneg X (show p ≠ 0 by omega)
  have m1 := Int.emod_lt_of_pos X hp
  have h0 : 0 ≤ a / p := Int.ediv_nonneg ha.1 (by omega)
  have h1 : a / p < s := Int.ediv_lt_of_lt_mul hp (by rw [Int.mul_comm s, hps]; exact ha.2)
  have e5 : (X * 4294967296 + a) / p = (X / p) * 4294967296 + ((X % p) * s + a / p) := by
    rw [e2, ← hps]
    generalize X / p = u at *
    generalize X % p = v at *
    generalize a / p = t at *
    subst e3
    grind
  have hb0 : 0 ≤ (X % p) * s := Int.mul_nonneg m0 (by omega)
  have hb1 : (X % p + 1) * s ≤ p * s := Int.mul_le_mul_of_nonneg_right (by omega) (by omega)
  rw [Int.add_mul, Int.one_mul, hps] at hb1
  have e6 : (X * 4294967296 + a) / p % 4294967296 = (X % p) * s + a / p := by
    rw [e5]
    generalize X % p * s = z at *
    omega
  refine ⟨?_, by omega, by omega⟩
  rw [e6]
  have : (X % p * s + a / p) * p = (X % p) * (p * s) + p * (a / p) := by grind
  rw [this, hps]
  omega
theorem right_l0 (a : List Int) (n : Nat) (ha : Lim a) (hn : n ≤ 31) (hna : a.length < 1000000000) (d : Nat) : ∀ (i : Nat) (out : List Int), i + d = a.length → out.length = a.length → Lim out → val (out.take i) * 2 ^ n + a.getD 0 0 % 2 ^ n = val (a.take i) + pw i * (a.getD i 0 % 2 ^ n) →
    Ev (fun k => nat_right.l0 k a (n : Int) out (a.length : Int) (i : Int)) (dig (val a / 2 ^ n)) := by
  have hp := p_pos n
  induction d with
  | zero =>
    intro i out hi ho hL hv
    obtain rfl : i = a.length := by omega
    refine Ev.step (f := fun _ => some _) (fun k => ?_) (Ev.now _)
    simp only [nat_right.l0]
    rw [if_neg (by omega), norm_ev out hL (by omega)]
    simp only [Option.bind_some]
    rw [List.take_of_length_le (by omega), List.take_of_length_le (by omega), List.getD_eq_getElem?_getD (i := a.length), List.getElem?_eq_none (by omega)] at hv
    simp only [Option.getD_none, Int.zero_emod, Int.mul_zero, Int.add_zero] at hv
    have h0 := Int.emod_nonneg (a.getD 0 0) (show (2 : Int) ^ n ≠ 0 by omega)
    have h1 := Int.emod_lt_of_pos (a.getD 0 0) hp
    rw [(div_unique hp hv h0 h1).1]
  | succ d ih =>
    intro i out hi ho hL hv
    have hia : i < a.length := by omega
    have hio : i < out.length := by omega
    have ga := ha.get i hia
    have gx := ha.getD (i + 1)
    obtain ⟨e1, e2, e3⟩ := right_limb hp (p_pos (32 - n)) (p_split (by omega)) gx ga
    refine Ev.step (fun k => ?_) (ih (i + 1) (out.set i ((a.getD (i + 1) 0 * 4294967296 + a[i]) / 2 ^ n % 4294967296)) (by omega) (by simpa using ho) (hL.set _ e2 e3) ?_)
    · simp only [nat_right.l0]
      rw [if_pos (by omega), w64 (x := (i : Int) + 1) (by omega) (by omega), show (i : Int) + 1 = ((i + 1 : Nat) : Int) by omega, limb_ev _ _ ha]
      simp only [Option.bind_some]
      rw [if_pos (by omega), if_pos (by omega), if_pos (by omega), if_pos (by omega), rd_get _ _ hia, u64 (x := a[i]) ga.1 (by omega), u64 (x := a.getD (i + 1) 0 * 4294967296) (by omega) (by omega), or_join gx ga, shr_u64 _ _ hn, Int.toNat_natCast]
    · rw [val_set_take _ _ _ hio, val_take_succ _ _ hia, pw_succ]
      rw [getD_get _ _ hia] at hv
      generalize (a.getD (i + 1) 0 * 4294967296 + a[i]) / 2 ^ n % 4294967296 = z at *
      generalize a.getD (i + 1) 0 % 2 ^ n = y at *
      generalize a[i] % 2 ^ n = w at *
      generalize (2 : Int) ^ n = p at *
      grind
theorem right_ev (a : List Int) (n : Nat) (ha : Lim a) (hn : n ≤ 31) (hna : a.length < 1000000000) : Ev (fun k => nat_right.f k a (n : Int)) (dig (val a / 2 ^ n)) := by
  refine Ev.congr (fun k => ?_) (right_l0 a n ha hn hna a.length 0 (List.replicate a.length 0) (by omega) (by simp) (Lim.zeros _) (by simp [val, pw_zero]))
  unfold nat_right.f
  rw [if_pos (by omega), if_pos (by omega)]
  simp only [Int.toNat_natCast]
  rfl
end Go.Proofs.YthnfmmaolkenkaaDoor.V
/- Knuth's division by limbs: what take, give, digit and DivMod compute; the greatest common divisor. -/
namespace Go.Proofs.YthnfmmaolkenkaaDoor.V
set_option linter.unusedVariables false
set_option linter.unusedSimpArgs false
open Go.RowKit Go.Proofs.YthnfmmaolkenkaaDoor.PA Go.Proofs.YthnfmmaolkenkaaDoor.H Go.Proofs.YthnfmmaolkenkaaDoorW.PrintWords Go.Proofs.YthnfmmaolkenkaaDoorW.PrintLast Go.Proofs.YthnfmmaolkenkaaDoorW.PrintMore

theorem and_low {x : Int} (h0 : 0 ≤ x) (h1 : x < 18446744073709551616) : Go.bits .and .u64 x 4294967295 = x % 4294967296 :=
  bits_mask .u64 64 (by decide) wraps_u64 32 (by decide) x h0 (by omega)
theorem step_take {U V0 Pi q v vp c b cl ch b' r u : Int} (h : U = V0 - q * vp + Pi * (c + b)) (e1 : cl + 4294967296 * ch = c + q * v) (e2 : r - 4294967296 * b' = u - cl - b) : U + Pi * (r - u) = V0 - q * (vp + Pi * v) + (4294967296 * Pi) * (ch + b') := by
  subst h
  grind
theorem take_l0 (u0 v : List Int) (q : Int) (hv : Lim v) (hq : 0 ≤ q ∧ q < 4294967296) (hnv : v.length < 1000000000) (hu0 : Lim u0) (hl0 : u0.length = v.length + 1) (d : Nat) : ∀ (i : Nat) (u : List Int) (c b : Int), i + d = v.length → u.length = v.length + 1 → Lim u → 0 ≤ c → c < 4294967296 → 0 ≤ b → b ≤ 1 → val u = val u0 - q * val (v.take i) + pw i * (c + b) →
    ∃ u', Ev (fun k => nat_take.l0 k u v q c b (v.length : Int) (i : Int)) (decide (val u0 < q * val v), u') ∧ u'.length = v.length + 1 ∧ Lim u' ∧ val u' = val u0 - q * val v + (if val u0 < q * val v then pw (v.length + 1) else 0) := by
  induction d with
  | zero =>
    intro i u c b hi hl hL c0 c1 b0 b1 he
    obtain rfl : i = v.length := by omega
    have hp : v.length < u.length := by omega
    have gu := hL.get _ hp
    rw [List.take_of_length_le (by omega)] at he
    have hset : (u.set v.length ((u[v.length] - c - b) % 4294967296)).length = v.length + 1 := by simpa using hl
    have hLs : Lim (u.set v.length ((u[v.length] - c - b) % 4294967296)) := hL.set _ (by omega) (by omega)
    have hval : val (u.set v.length ((u[v.length] - c - b) % 4294967296)) = val u0 - q * val v - pw (v.length + 1) * ((u[v.length] - c - b) / 4294967296) := by
      rw [val_set _ _ _ hp, he, pw_succ]
      have e := Int.mul_ediv_add_emod (u[v.length] - c - b) 4294967296
      generalize (u[v.length] - c - b) / 4294967296 = f at *
      generalize (u[v.length] - c - b) % 4294967296 = g at *
      generalize u[v.length] = z at *
      grind
    have h1 := val_lt hLs
    have h2 := val_nonneg hLs
    have h3 := val_nonneg hu0
    have h4 := val_lt hu0
    rw [hset] at h1
    have hneg : (u[v.length] - c - b < 0) ↔ val u0 < q * val v := by
      by_cases hn : u[v.length] - c - b < 0
      · have : (u[v.length] - c - b) / 4294967296 = -1 := by omega
        rw [this] at hval
        constructor <;> intro <;> omega
      · have : (u[v.length] - c - b) / 4294967296 = 0 := by omega
        rw [this] at hval
        constructor <;> intro <;> omega
    have e1 : IntKind.u64.wrap ((IntKind.u64.wrap (u[v.length] - c)) - b) = (u[v.length] - c - b) % 18446744073709551616 := by rw [u64e, u64e]; omega
    refine ⟨u.set v.length ((u[v.length] - c - b) % 4294967296), Ev.step (f := fun _ => some _) (fun k => ?_) (Ev.now _), hset, hLs, ?_⟩
    · simp only [nat_take.l0]
      rw [if_neg (by omega), if_pos (by omega), if_pos (by omega), rd_get _ _ hp, u64 (x := u[v.length]) gu.1 (by omega), e1, Int.toNat_natCast]
      congr 2
      · rw [Bool.eq_iff_iff]
        simp only [beq_iff_eq, decide_eq_true_eq]
        rw [← hneg]
        constructor <;> intro <;> omega
      · congr 1; omega
    · rw [hval]
      by_cases hn : u[v.length] - c - b < 0
      · rw [if_pos (hneg.1 hn), show (u[v.length] - c - b) / 4294967296 = -1 by omega]; omega
      · rw [if_neg (fun h => hn (hneg.2 h)), show (u[v.length] - c - b) / 4294967296 = 0 by omega]; omega
  | succ d ih =>
    intro i u c b hi hl hL c0 c1 b0 b1 he
    have hiv : i < v.length := by omega
    have hiu : i < u.length := by omega
    have gv := hv.get i hiv
    have gu := hL.get i hiu
    have hm := mul_bd32 hq gv
    have e1 : IntKind.u64.wrap (c + IntKind.u64.wrap (q * IntKind.u64.wrap v[i])) = c + q * v[i] := by
      rw [u64 (x := v[i]) (by omega) (by omega), u64 (x := q * v[i]) (by omega) (by omega), u64 (by omega) (by omega)]
    have e2 : IntKind.u64.wrap ((IntKind.u64.wrap (u[i] - (c + q * v[i]) % 4294967296)) - b) = (u[i] - (c + q * v[i]) % 4294967296 - b) % 18446744073709551616 := by rw [u64e, u64e]; omega
    have hstep := step_take (ch := (c + q * v[i]) / 4294967296) (b' := (u[i] - (c + q * v[i]) % 4294967296 - b) % 18446744073709551616 / 9223372036854775808) (r := (u[i] - (c + q * v[i]) % 4294967296 - b) % 18446744073709551616 % 4294967296) (u := u[i]) (cl := (c + q * v[i]) % 4294967296) (v := v[i]) he (by omega) (by omega)
    obtain ⟨u', h1, h2⟩ := ih (i + 1) (u.set i ((u[i] - (c + q * v[i]) % 4294967296 - b) % 18446744073709551616 % 4294967296)) ((c + q * v[i]) / 4294967296) ((u[i] - (c + q * v[i]) % 4294967296 - b) % 18446744073709551616 / 9223372036854775808) (by omega) (by simpa using hl) (hL.set _ (by omega) (by omega)) (by omega) (by omega) (by omega) (by omega) (by
      rw [val_set _ _ _ hiu, val_take_succ _ _ hiv, pw_succ]
      exact hstep)
    refine ⟨u', Ev.step (fun k => ?_) h1, h2⟩
    simp only [nat_take.l0]
    rw [if_pos (by omega), if_pos (by omega), if_pos (by omega), if_pos (by omega), rd_get _ _ hiv, rd_get _ _ hiu, e1, and_low (by omega) (by omega), u64 (x := u[i]) (by omega) (by omega), e2, w64 (by omega) (by omega), Int.toNat_natCast]
    rfl
theorem take_ev (u v : List Int) (q : Int) (hu : Lim u) (hv : Lim v) (hq : 0 ≤ q ∧ q < 4294967296) (hnv : v.length < 1000000000) (hl : u.length = v.length + 1) :
    ∃ u', Ev (fun k => nat_take.f k u v q) (decide (val u < q * val v), u') ∧ u'.length = v.length + 1 ∧ Lim u' ∧ val u' = val u - q * val v + (if val u < q * val v then pw (v.length + 1) else 0) := by
  obtain ⟨u', h1, h2⟩ := take_l0 u v q hv hq hnv hu hl v.length 0 u 0 0 (by omega) hl hu (by omega) (by omega) (by omega) (by omega) (by simp [val])
  exact ⟨u', Ev.congr (fun k => rfl) h1, h2⟩
theorem step_give {U V0 Pi v vp c ch r u : Int} (h : U + Pi * c = V0 + vp) (e : r + 4294967296 * ch = c + (u + v)) : U + Pi * (r - u) + (4294967296 * Pi) * ch = V0 + (vp + Pi * v) := by grind
theorem give_l0 (u0 v : List Int) (hv : Lim v) (hnv : v.length < 1000000000) (hbig : pw (v.length + 1) ≤ val u0 + val v) (hu0 : val u0 < pw (v.length + 1)) (d : Nat) : ∀ (i : Nat) (u : List Int) (c : Int), i + d = v.length → u.length = v.length + 1 → Lim u → 0 ≤ c → c ≤ 1 → val u + pw i * c = val u0 + val (v.take i) →
    ∃ u', Ev (fun k => nat_give.l0 k u v c (v.length : Int) (i : Int)) u' ∧ u'.length = v.length + 1 ∧ Lim u' ∧ val u' = val u0 + val v - pw (v.length + 1) := by
  induction d with
  | zero =>
    intro i u c hi hl hL c0 c1 he
    obtain rfl : i = v.length := by omega
    have hp : v.length < u.length := by omega
    have gu := hL.get _ hp
    rw [List.take_of_length_le (by omega)] at he
    have hset : (u.set v.length ((u[v.length] + c) % 4294967296)).length = v.length + 1 := by simpa using hl
    have hLs : Lim (u.set v.length ((u[v.length] + c) % 4294967296)) := hL.set _ (by omega) (by omega)
    have hval : val (u.set v.length ((u[v.length] + c) % 4294967296)) = val u0 + val v - pw (v.length + 1) * ((u[v.length] + c) / 4294967296) := by
      rw [val_set _ _ _ hp, pw_succ]
      have e := Int.mul_ediv_add_emod (u[v.length] + c) 4294967296
      generalize (u[v.length] + c) / 4294967296 = f at *
      generalize (u[v.length] + c) % 4294967296 = g at *
      generalize u[v.length] = z at *
      grind
    have h1 := val_lt hLs
    have h2 := val_lt hv
    rw [hset] at h1
    have h3 := pw_succ v.length
    have h4 := pw_pos v.length
    have hone : (u[v.length] + c) / 4294967296 = 1 := by
      have : (u[v.length] + c) / 4294967296 = 0 ∨ (u[v.length] + c) / 4294967296 = 1 := by omega
      rcases this with h0 | h0
      · rw [h0] at hval; omega
      · exact h0
    refine ⟨u.set v.length ((u[v.length] + c) % 4294967296), Ev.step (f := fun _ => some _) (fun k => ?_) (Ev.now _), hset, hLs, by rw [hval, hone]; omega⟩
    simp only [nat_give.l0]
    rw [if_neg (by omega), if_pos (by omega), if_pos (by omega), rd_get _ _ hp, Int.toNat_natCast]
    congr 2
    omega
  | succ d ih =>
    intro i u c hi hl hL c0 c1 he
    have hiv : i < v.length := by omega
    have hiu : i < u.length := by omega
    have gv := hv.get i hiv
    have gu := hL.get i hiu
    obtain ⟨u', h1, h2⟩ := ih (i + 1) (u.set i ((c + (u[i] + v[i])) % 4294967296)) ((c + (u[i] + v[i])) / 4294967296) (by omega) (by simpa using hl) (hL.set _ (by omega) (by omega)) (by omega) (by omega) (by
      rw [val_set _ _ _ hiu, val_take_succ _ _ hiv, pw_succ]
      exact step_give he (by omega))
    refine ⟨u', Ev.step (fun k => ?_) h1, h2⟩
    simp only [nat_give.l0]
    rw [if_pos (by omega), if_pos (by omega), if_pos (by omega), if_pos (by omega), rd_get _ _ hiv, rd_get _ _ hiu, u64 (x := u[i]) (by omega) (by omega), u64 (x := v[i]) (by omega) (by omega), u64 (x := u[i] + v[i]) (by omega) (by omega), u64 (by omega) (by omega), w64 (by omega) (by omega), Int.toNat_natCast]
    rfl
theorem give_ev (u v : List Int) (hu : Lim u) (hv : Lim v) (hnv : v.length < 1000000000) (hl : u.length = v.length + 1) (hbig : pw (v.length + 1) ≤ val u + val v) :
    ∃ u', Ev (fun k => nat_give.f k u v) u' ∧ u'.length = v.length + 1 ∧ Lim u' ∧ val u' = val u + val v - pw (v.length + 1) := by
  have h0 := val_lt hu
  rw [hl] at h0
  obtain ⟨u', h1, h2⟩ := give_l0 u v hv hnv hbig h0 v.length 0 u 0 (by omega) hl hu (by omega) (by omega) (by simp [val])
  exact ⟨u', Ev.congr (fun k => rfl) h1, h2⟩

/-! ### one limb of a quotient -/
theorem digit_j1 (u v : List Int) (q : Int) (hu : Lim u) (hv : Lim v) (hnv : v.length < 1000000000) (hl : u.length = v.length + 1) (hq : 0 ≤ q ∧ q < 4294967296) (hv0 : 0 < val v) (h1 : (q - 1) * val v ≤ val u) (h2 : val u < (q + 1) * val v) :
    ∃ u', Ev (fun k => nat_digit.j1 k u v q) (val u / val v, u') ∧ u'.length = v.length + 1 ∧ Lim u' ∧ val u' = val u % val v := by
  obtain ⟨u1, t1, t2, t3, t4⟩ := take_ev u v q hu hv hq hnv hl
  have e1 : (q - 1) * val v = q * val v - val v := by grind
  have e2 : (q + 1) * val v = q * val v + val v := by grind
  by_cases hneg : val u < q * val v
  · rw [if_pos hneg] at t4
    have hq1 : 1 ≤ q := by
      have h0 := val_nonneg hu
      by_cases hz : q = 0
      · subst hz; omega
      · omega
    obtain ⟨u2, g1, g2, g3, g4⟩ := give_ev u1 v t3 hv hnv t2 (by omega)
    have hd := div_unique hv0 (a := val u) (q := q - 1) (r := val u2) (by rw [g4, t4]; omega) (val_nonneg g3) (by omega)
    refine ⟨u2, ?_, g2, g3, hd.2.symm⟩
    refine Ev.step (fun k => by simp only [nat_digit.j1]; rfl) (Ev.bind t1 ?_)
    simp only [decide_eq_true hneg, if_true]
    refine Ev.congr (fun k => rfl) (Ev.bind g1 ?_)
    rw [hd.1, u64 (by omega) (by omega), Int.emod_eq_of_lt (by omega) (by omega)]
    exact Ev.now _
  · rw [if_neg hneg] at t4
    have hd := div_unique hv0 (a := val u) (q := q) (r := val u1) (by rw [t4]; omega) (val_nonneg t3) (by omega)
    refine ⟨u1, ?_, t2, t3, hd.2.symm⟩
    refine Ev.step (fun k => by simp only [nat_digit.j1]; rfl) (Ev.bind t1 ?_)
    rw [decide_eq_false hneg]
    simp only [Bool.false_eq_true, if_false]
    rw [hd.1, Int.emod_eq_of_lt (by omega) (by omega)]
    exact Ev.now _
/-- The truncated quotient is no less than the quotient. -/
theorem est_le {Q T Vt P U V : Int} (hP : 0 < P) (hQ : 0 ≤ Q) (h1 : Q * V ≤ U) (h2 : U < (T + 1) * P) (h3 : Vt * P ≤ V) : Q * Vt ≤ T := by
  have a1 : Q * (Vt * P) ≤ Q * V := Int.mul_le_mul_of_nonneg_left h3 hQ
  have a2 : (Q * Vt) * P < (T + 1) * P := by rw [Int.mul_assoc]; omega
  have := Int.lt_of_mul_lt_mul_right a2 (Int.le_of_lt hP)
  omega
/-- A quotient that fits three limbs by two is at most one too great. -/
theorem est_ge {q T V2 P U V : Int} (hP : 0 < P) (hq : 0 ≤ q) (hqV : q - 1 ≤ V2) (h1 : q * V2 ≤ T) (h2 : T * P ≤ U) (h3 : V ≤ (V2 + 1) * P) (hV : 0 ≤ V) (hU : 0 ≤ U) : (q - 1) * V ≤ U := by
  by_cases hz : q = 0
  · subst hz
    have : (0 - 1) * V = -V := by grind
    omega
  · have a1 : (q - 1) * V ≤ (q - 1) * ((V2 + 1) * P) := Int.mul_le_mul_of_nonneg_left h3 (by omega)
    have a2 : (q - 1) * (V2 + 1) ≤ T := by
      have : (q - 1) * (V2 + 1) = q * V2 - V2 + q - 1 := by grind
      omega
    have a3 : (q - 1) * (V2 + 1) * P ≤ T * P := Int.mul_le_mul_of_nonneg_right a2 (Int.le_of_lt hP)
    rw [Int.mul_assoc] at a3
    omega
set_option maxHeartbeats 2000000 in
theorem digit_l0 (u v : List Int) (hu : Lim u) (hv : Lim v) (hnv : v.length < 1000000000) (m : Nat) (hm : v.length = m + 2) (hl : u.length = m + 3) (top : Int) (htop : top = u[m + 2] * 4294967296 + u[m + 1]) (hvt : 2147483648 ≤ v[m + 1]) (hlt : val u < 4294967296 * val v) (hQ : 0 ≤ val u / val v) (d : Nat) : ∀ (q r : Int), q.toNat < d → 0 ≤ q → q < 4294967296 → r = top - q * v[m + 1] → 0 ≤ r → r < 8589934592 → val u / val v ≤ q →
    ∃ u', Ev (fun k => nat_digit.l0 k u v (v.length : Int) q r) (val u / val v, u') ∧ u'.length = v.length + 1 ∧ Lim u' ∧ val u' = val u % val v := by
  have gv1 := hv.get (m + 1) (by omega)
  have gv2 := hv.get m (by omega)
  have gu0 := hu.get m (by omega)
  have gu1 := hu.get (m + 1) (by omega)
  have gu2 := hu.get (m + 2) (by omega)
  have dv : val v = val (v.take m) + pw m * (v[m] + 4294967296 * v[m + 1]) := by
    rw [val_take_drop v m (by omega), val_drop_cons v m (by omega), val_drop_cons v (m + 1) (by omega), List.drop_eq_nil_of_le (by omega)]
    simp [val]
  have du : val u = val (u.take m) + pw m * (u[m] + 4294967296 * (u[m + 1] + 4294967296 * u[m + 2])) := by
    rw [val_take_drop u m (by omega), val_drop_cons u m (by omega), val_drop_cons u (m + 1) (by omega), val_drop_cons u (m + 2) (by omega), List.drop_eq_nil_of_le (by omega)]
    simp [val]
  have lv0 := val_nonneg (hv.take m)
  have lv1 := val_lt (hv.take m)
  have lu0 := val_nonneg (hu.take m)
  have lu1 := val_lt (hu.take m)
  rw [List.length_take, Nat.min_eq_left (by omega)] at lv1 lu1
  have hP := pw_pos m
  have hv0 : 0 < val v := by
    have : pw m * 1 ≤ pw m * (v[m] + 4294967296 * v[m + 1]) := Int.mul_le_mul_of_nonneg_left (by omega) (Int.le_of_lt hP)
    omega
  -- the three highest limbs, and the two of the divisor
  have hU1 : val u < ((top * 4294967296 + u[m]) + 1) * pw m := by
    have e : ((top * 4294967296 + u[m]) + 1) * pw m = pw m * (u[m] + 4294967296 * (u[m + 1] + 4294967296 * u[m + 2])) + pw m := by rw [htop]; grind
    omega
  have hU2 : (top * 4294967296 + u[m]) * pw m ≤ val u := by
    have e : (top * 4294967296 + u[m]) * pw m = pw m * (u[m] + 4294967296 * (u[m + 1] + 4294967296 * u[m + 2])) := by rw [htop]; grind
    omega
  have hV1 : (v[m + 1] * 4294967296 + v[m]) * pw m ≤ val v := by
    have e : (v[m + 1] * 4294967296 + v[m]) * pw m = pw m * (v[m] + 4294967296 * v[m + 1]) := by grind
    omega
  have hV2 : val v ≤ ((v[m + 1] * 4294967296 + v[m]) + 1) * pw m := by
    have e : ((v[m + 1] * 4294967296 + v[m]) + 1) * pw m = pw m * (v[m] + 4294967296 * v[m + 1]) + pw m := by grind
    omega
  have hQV : (val u / val v) * val v ≤ val u := Int.ediv_mul_le _ (by omega)
  have hUQ : val u < (val u / val v + 1) * val v := Int.lt_ediv_add_one_mul_self _ hv0
  have hu0 := val_nonneg hu
  induction d with
  | zero => intro q r hd; omega
  | succ d ih =>
    intro q r hd q0 q1 hr r0 r1 hq
    have hm2 := mul_bd32 ⟨q0, q1⟩ gv2
    -- the loop ends here
    have hend : Aside0 (q * v[m] ≤ r * 4294967296 + u[m] → ∃ u', Ev (fun k => nat_digit.j1 k u v q) (val u / val v, u') ∧ u'.length = v.length + 1 ∧ Lim u' ∧ val u' = val u % val v) := by
      refine ⟨fun hfit => ?_⟩
      refine digit_j1 u v q hu hv hnv (by omega) ⟨q0, q1⟩ hv0 ?_ ?_
      · refine est_ge hP q0 (by omega) ?_ hU2 hV2 (by omega) hu0
        have : q * (v[m + 1] * 4294967296 + v[m]) = (top - r) * 4294967296 + q * v[m] := by rw [hr]; grind
        omega
      · have : (val u / val v + 1) * val v ≤ (q + 1) * val v := Int.mul_le_mul_of_nonneg_right (by omega) (by omega)
        omega
    by_cases hr32 : r < 4294967296
    · by_cases hbig : q * v[m] > r * 4294967296 + u[m]
      · -- one less
        have hq1 : 1 ≤ q := by
          by_cases hz : q = 0
          · subst hz; omega
          · omega
        have hQq : val u / val v ≤ q - 1 := by
          by_cases hz : val u / val v ≤ q - 1
          · exact hz
          · have e : val u / val v = q := by omega
            have h := est_le hP hQ hQV hU1 hV1
            rw [e] at h
            have : q * (v[m + 1] * 4294967296 + v[m]) = (top - r) * 4294967296 + q * v[m] := by rw [hr]; grind
            omega
        obtain ⟨u', h1, h2⟩ := ih (q - 1) (r + v[m + 1]) (by omega) (by omega) (by omega) (by rw [hr]; grind) (by omega) (by omega) hQq
        refine ⟨u', Ev.step (fun k => ?_) h1, h2⟩
        simp only [nat_digit.l0]
        rw [if_pos hr32, w64 (x := (v.length : Int) - 2) (by omega) (by omega), w64 (x := (v.length : Int) - 1) (by omega) (by omega), show (v.length : Int) - 2 = (m : Int) by omega, show (v.length : Int) - 1 = ((m + 1 : Nat) : Int) by omega, if_pos (by omega), if_pos (by omega), if_pos (by omega), rd_get _ _ (show m < v.length by omega), rd_get _ _ (show m < u.length by omega), rd_get _ _ (show m + 1 < v.length by omega), u64 (x := v[m]) (by omega) (by omega), u64 (x := u[m]) (by omega) (by omega), u64 (x := v[m + 1]) (by omega) (by omega), u64 (x := q * v[m]) (by omega) (by omega), u64 (x := r * 4294967296) (by omega) (by omega), or_join ⟨r0, hr32⟩ gu0, if_pos hbig, if_pos (by omega), if_pos (by omega), u64 (by omega) (by omega), u64 (by omega) (by omega)]
      · obtain ⟨u', h1, h2⟩ := hend.out (by omega)
        refine ⟨u', Ev.step (fun k => ?_) h1, h2⟩
        simp only [nat_digit.l0]
        rw [if_pos hr32, w64 (x := (v.length : Int) - 2) (by omega) (by omega), show (v.length : Int) - 2 = (m : Int) by omega, if_pos (by omega), if_pos (by omega), if_pos (by omega), rd_get _ _ (show m < v.length by omega), rd_get _ _ (show m < u.length by omega), u64 (x := v[m]) (by omega) (by omega), u64 (x := u[m]) (by omega) (by omega), u64 (x := q * v[m]) (by omega) (by omega), u64 (x := r * 4294967296) (by omega) (by omega), or_join ⟨r0, hr32⟩ gu0, if_neg hbig]
    · obtain ⟨u', h1, h2⟩ := hend.out (by omega)
      refine ⟨u', Ev.step (fun k => ?_) h1, h2⟩
      simp only [nat_digit.l0]
      rw [if_neg hr32]
theorem mn_eq (a b : Int) : mn a b = min a b := by unfold mn; split <;> omega
set_option maxHeartbeats 2000000 in
theorem digit_ev (u v : List Int) (hu : Lim u) (hv : Lim v) (hnv : v.length < 1000000000) (h2 : 2 ≤ v.length) (hl : u.length = v.length + 1) (htop : 2147483648 ≤ v.getD (v.length - 1) 0) (hlt : val u < 4294967296 * val v) :
    ∃ u', Ev (fun k => nat_digit.f k u v) (val u / val v, u') ∧ u'.length = v.length + 1 ∧ Lim u' ∧ val u' = val u % val v := by
  obtain ⟨m, hm⟩ : ∃ m, v.length = m + 2 := ⟨v.length - 2, by omega⟩
  have gv1 := hv.get (m + 1) (by omega)
  have gu1 := hu.get (m + 1) (by omega)
  have gu2 := hu.get (m + 2) (by omega)
  rw [hm, show m + 2 - 1 = m + 1 by omega, getD_get _ _ (show m + 1 < v.length by omega)] at htop
  have hP := pw_pos (m + 1)
  have dv : val v = val (v.take (m + 1)) + pw (m + 1) * v[m + 1] := by
    rw [val_take_drop v (m + 1) (by omega), val_drop_cons v (m + 1) (by omega), List.drop_eq_nil_of_le (by omega)]
    simp [val]
  have du : val u = val (u.take (m + 1)) + pw (m + 1) * (u[m + 1] + 4294967296 * u[m + 2]) := by
    rw [val_take_drop u (m + 1) (by omega), val_drop_cons u (m + 1) (by omega), val_drop_cons u (m + 2) (by omega), List.drop_eq_nil_of_le (by omega)]
    simp [val]
  have lv0 := val_nonneg (hv.take (m + 1))
  have lv1 := val_lt (hv.take (m + 1))
  have lu0 := val_nonneg (hu.take (m + 1))
  have lu1 := val_lt (hu.take (m + 1))
  rw [List.length_take, Nat.min_eq_left (by omega)] at lv1 lu1
  have hv0 : 0 < val v := by
    have : pw (m + 1) * 1 ≤ pw (m + 1) * v[m + 1] := Int.mul_le_mul_of_nonneg_left (by omega) (Int.le_of_lt hP)
    omega
  have hQ : 0 ≤ val u / val v := Int.ediv_nonneg (val_nonneg hu) (by omega)
  obtain ⟨top, htp⟩ : ∃ t, t = u[m + 2] * 4294967296 + u[m + 1] := ⟨_, rfl⟩
  have htp0 : 0 ≤ top := by omega
  have htp1 : top < 18446744073709551616 := by omega
  have hQtop : (val u / val v) * v[m + 1] ≤ top := by
    refine est_le hP hQ (Int.ediv_mul_le _ (by omega)) ?_ (V := val v) ?_
    · have e : (top + 1) * pw (m + 1) = pw (m + 1) * (u[m + 1] + 4294967296 * u[m + 2]) + pw (m + 1) := by rw [htp]; grind
      omega
    · rw [Int.mul_comm]; omega
  have hQ1 : val u / val v ≤ top / v[m + 1] := Int.le_ediv_of_mul_le (by omega) hQtop
  have hQ2 : val u / val v < 4294967296 := Int.ediv_lt_of_lt_mul hv0 hlt
  have hd0 : 0 ≤ top / v[m + 1] := Int.ediv_nonneg htp0 (by omega)
  have hd1 : top / v[m + 1] < 18446744073709551616 := by
    have : top / v[m + 1] ≤ top := Int.ediv_le_self _ htp0
    omega
  -- the first guess
  obtain ⟨q, hq⟩ : ∃ q, q = mn (top / v[m + 1]) 4294967295 := ⟨_, rfl⟩
  have hq' := hq
  rw [mn_eq] at hq'
  have q0 : 0 ≤ q := by omega
  have q1 : q < 4294967296 := by omega
  have hqm := mul_bd32 ⟨q0, q1⟩ gv1
  have hqt : q * v[m + 1] ≤ top := by
    have h1 : q * v[m + 1] ≤ (top / v[m + 1]) * v[m + 1] := Int.mul_le_mul_of_nonneg_right (by omega) (by omega)
    have h2 := Int.ediv_mul_le top (show v[m + 1] ≠ 0 by omega)
    omega
  -- the limb above is not above the divisor's highest
  have hu2 : u[m + 2] ≤ v[m + 1] := by
    by_cases h : u[m + 2] ≤ v[m + 1]
    · exact h
    · have h1 : pw (m + 1) * (4294967296 * (v[m + 1] + 1)) ≤ pw (m + 1) * (u[m + 1] + 4294967296 * u[m + 2]) := Int.mul_le_mul_of_nonneg_left (by omega) (Int.le_of_lt hP)
      have h2 : pw (m + 1) * (4294967296 * (v[m + 1] + 1)) = 4294967296 * (pw (m + 1) * v[m + 1]) + 4294967296 * pw (m + 1) := by grind
      omega
  have hr1 : top - q * v[m + 1] < 8589934592 := by
    by_cases h : top / v[m + 1] ≤ 4294967295
    · have e : q = top / v[m + 1] := by omega
      have h3 := Int.emod_lt_of_pos top (show 0 < v[m + 1] by omega)
      have h4 := Int.mul_ediv_add_emod top v[m + 1]
      rw [e, Int.mul_comm]
      omega
    · have e : q = 4294967295 := by omega
      rw [e, htp]
      omega
  obtain ⟨u', h1, h2⟩ := digit_l0 u v hu hv hnv m hm (by omega) top htp htop hlt hQ (q.toNat + 1) q (top - q * v[m + 1]) (by omega) q0 q1 rfl (by omega) hr1 (by omega)
  refine ⟨u', Ev.congr (fun k => ?_) h1, h2⟩
  have eor : Go.bits .or .u64 (IntKind.u64.wrap ((IntKind.u64.wrap u[m + 2]) * 4294967296)) (IntKind.u64.wrap u[m + 1]) = top := by
    rw [u64 (x := u[m + 2]) (by omega) (by omega), u64 (x := u[m + 2] * 4294967296) (by omega) (by omega), u64 (x := u[m + 1]) (by omega) (by omega), or_join gu2 gu1, htp]
  have er2 : rd u (v.length : Int) = u[m + 2] := by rw [rd_D, hm, getD_get _ _ (show m + 2 < u.length by omega)]
  unfold nat_digit.f
  rw [w64 (x := (v.length : Int) - 1) (by omega) (by omega), show (v.length : Int) - 1 = ((m + 1 : Nat) : Int) by omega, if_pos (by omega), if_pos (by omega), if_pos (by omega), if_pos (by omega), if_pos (by omega), rd_get _ _ (show m + 1 < v.length by omega), er2, rd_get _ _ (show m + 1 < u.length by omega), eor, u64 (x := v[m + 1]) (by omega) (by omega), if_neg (by omega), Int.tdiv_eq_ediv_of_nonneg htp0, u64 hd0 hd1, ← hq, u64 (x := q * v[m + 1]) (by omega) (by omega), u64 (by omega) (by omega)]
end Go.Proofs.YthnfmmaolkenkaaDoor.V
/- nat.DivMod and nat.Gcd, as numbers. -/
namespace Go.Proofs.YthnfmmaolkenkaaDoor.V
set_option linter.unusedVariables false
set_option linter.unusedSimpArgs false
open Go.RowKit Go.Proofs.YthnfmmaolkenkaaDoor.PA Go.Proofs.YthnfmmaolkenkaaDoor.H Go.Proofs.YthnfmmaolkenkaaDoorW.PrintWords Go.Proofs.YthnfmmaolkenkaaDoorW.PrintLast Go.Proofs.YthnfmmaolkenkaaDoorW.PrintMore

theorem bitLenAux_spec (f x : Nat) (hx : x < 2 ^ f) : x < 2 ^ (Lib.bitLenAux f x) ∧ (0 < x → 2 ^ (Lib.bitLenAux f x) ≤ 2 * x) ∧ Lib.bitLenAux f x ≤ f := by
  induction f generalizing x with
  | zero => simp at hx; subst hx; simp [Lib.bitLenAux]
  | succ f ih =>
    unfold Lib.bitLenAux
    by_cases h : x = 0
    · rw [if_pos h]; subst h; simp
    · rw [if_neg h]
      rw [Nat.pow_succ] at hx
      obtain ⟨h1, h2, h3⟩ := ih (x / 2) (by omega)
      rw [Nat.add_comm 1, Nat.pow_succ]
      refine ⟨by omega, fun _ => ?_, by omega⟩
      by_cases hz : x / 2 = 0
      · rw [hz]
        have e : Lib.bitLenAux f 0 = 0 := by cases f <;> simp [Lib.bitLenAux]
        rw [e]; omega
      · have := h2 (by omega); omega
/-- By how many bits the divisor is moved up: its highest limb's highest bit stands then. -/
theorem lz_ev (x : Int) (h0 : 0 < x) (h1 : x < 4294967296) : ∃ n : Nat, bits_LeadingZeros32.f x = some (n : Int) ∧ n ≤ 31 ∧ 2147483648 ≤ x * 2 ^ n ∧ (x + 1) * 2 ^ n ≤ 4294967296 := by
  obtain ⟨a1, a2, a3⟩ := bitLenAux_spec 64 x.toNat (by omega)
  have a2 := a2 (by omega)
  have a4 : Lib.bitLen x.toNat ≤ 32 := by
    unfold Lib.bitLen
    by_cases h : Lib.bitLenAux 64 x.toNat ≤ 32
    · exact h
    · have := Nat.pow_le_pow_right (n := 2) (by omega) (show 33 ≤ Lib.bitLenAux 64 x.toNat by omega)
      omega
  have a5 : 1 ≤ Lib.bitLen x.toNat := by
    unfold Lib.bitLen
    by_cases h : Lib.bitLenAux 64 x.toNat = 0
    · rw [h] at a1; omega
    · omega
  unfold Lib.bitLen at a4 a5
  obtain ⟨b, hb⟩ : ∃ b, b = Lib.bitLenAux 64 x.toNat := ⟨_, rfl⟩
  rw [← hb] at a1 a2 a4 a5
  refine ⟨32 - b, ?_, by omega, ?_, ?_⟩
  · unfold bits_LeadingZeros32.f Lib.bitLen
    rw [if_pos (by omega), ← hb]
    congr 1
    omega
  · have e : (2 : Nat) ^ b * 2 ^ (32 - b) = 4294967296 := by rw [← Nat.pow_add, show b + (32 - b) = 32 by omega]
    have h2 : 2 ^ b * 2 ^ (32 - b) ≤ (2 * x.toNat) * 2 ^ (32 - b) := Nat.mul_le_mul_right _ a2
    have h3 : x * 2 ^ (32 - b) = ((x.toNat * 2 ^ (32 - b) : Nat) : Int) := by
      rw [Int.natCast_mul, Int.toNat_of_nonneg (by omega)]; simp
    rw [h3]
    rw [Nat.mul_assoc] at h2
    omega
  · have e : (2 : Nat) ^ b * 2 ^ (32 - b) = 4294967296 := by rw [← Nat.pow_add, show b + (32 - b) = 32 by omega]
    have h2 : (x.toNat + 1) * 2 ^ (32 - b) ≤ 2 ^ b * 2 ^ (32 - b) := Nat.mul_le_mul_right _ a1
    have hp : 0 < 2 ^ (32 - b) := Nat.two_pow_pos _
    have h3 : x * 2 ^ (32 - b) = ((x.toNat * 2 ^ (32 - b) : Nat) : Int) := by
      rw [Int.natCast_mul, Int.toNat_of_nonneg (by omega)]; simp
    have h4 : (2 : Int) ^ (32 - b) = ((2 ^ (32 - b) : Nat) : Int) := by simp
    rw [Int.add_mul, h3, Int.one_mul, h4]
    rw [Nat.add_mul, Nat.one_mul] at h2
    omega
/-- The limbs of a window, by the whole. -/
theorem digitW_ev (u v : List Int) (j : Nat) (hu : Lim u) (hv : Lim v) (hnv : v.length < 1000000000) (hnu : u.length < 2000000000) (h2 : 2 ≤ v.length) (hj : j + v.length + 1 ≤ u.length) (htop : 2147483648 ≤ v.getD (v.length - 1) 0) (hlt : val (u.drop (j + 1)) < val v) :
    ∃ u', Ev (fun k => nat_digitW.f k u (j : Int) (((j + v.length + 1 : Nat)) : Int) v) (val (u.drop j) / val v, u') ∧ u'.length = u.length ∧ Lim u' ∧ val (u'.drop j) = val (u.drop j) % val v ∧ val u' = val u - pw j * (val (u.drop j) / val v * val v) := by
  have hvv := val_lt hv
  have hP := pw_pos v.length
  -- nothing stands above the window
  have hsp : (u.drop j) = (u.take (j + v.length + 1)).drop j ++ u.drop (j + v.length + 1) := by
    rw [← List.take_append_drop (v.length + 1) (u.drop j), List.drop_drop, List.drop_take]
    congr 1
    congr 1
    omega
  have hlw : ((u.take (j + v.length + 1)).drop j).length = v.length + 1 := by rw [List.length_drop, List.length_take]; omega
  have hju : j < u.length := by omega
  have gj := hu.get j hju
  have hd1 : val (u.drop j) = u[j] + 4294967296 * val (u.drop (j + 1)) := val_drop_cons u j hju
  have hlt' : val (u.drop j) < 4294967296 * val v := by omega
  have hLw : Lim ((u.take (j + v.length + 1)).drop j) := (hu.take _).drop _
  have hw0 := val_nonneg hLw
  have hw : val ((u.take (j + v.length + 1)).drop j) = val (u.drop j) ∧ val (u.drop (j + v.length + 1)) = 0 := by
    have e := val_append ((u.take (j + v.length + 1)).drop j) (u.drop (j + v.length + 1))
    rw [← hsp, hlw, pw_succ] at e
    have h3 := val_nonneg (hu.drop (j + v.length + 1))
    by_cases hz : val (u.drop (j + v.length + 1)) = 0
    · rw [hz] at e; exact ⟨by omega, hz⟩
    · have : (4294967296 * pw v.length) * 1 ≤ (4294967296 * pw v.length) * val (u.drop (j + v.length + 1)) := Int.mul_le_mul_of_nonneg_left (by omega) (by omega)
      omega
  obtain ⟨w, h1, h2', h3, h4⟩ := digit_ev _ v hLw hv hnv h2 hlw htop (by rw [hw.1]; exact hlt')
  rw [hw.1] at h1 h4
  have hl' : (u.take j ++ w ++ u.drop (j + v.length + 1)).length = u.length := by simp [h2']; omega
  have hdj : (u.take j ++ w ++ u.drop (j + v.length + 1)).drop j = w ++ u.drop (j + v.length + 1) := by
    rw [List.append_assoc, List.drop_append_of_le_length (by simp; omega), List.drop_eq_nil_of_le (by simp; omega), List.nil_append]
  have hvd : val ((u.take j ++ w ++ u.drop (j + v.length + 1)).drop j) = val (u.drop j) % val v := by
    rw [hdj, val_append, hw.2, h4]; omega
  refine ⟨u.take j ++ w ++ u.drop (j + v.length + 1), ?_, hl', ((hu.take j).append h3).append (hu.drop _), hvd, ?_⟩
  · obtain ⟨K, hK⟩ := h1
    refine ⟨K, fun k hk => ?_⟩
    have hK := hK k hk
    show nat_digitW.f k u (j : Int) ((j + v.length + 1 : Nat) : Int) v = _
    unfold nat_digitW.f
    rw [if_pos (by omega), Int.toNat_natCast, Int.toNat_natCast]
    simp only [] at hK
    rw [hK]
    rfl
  · have e1 := val_take_drop (u.take j ++ w ++ u.drop (j + v.length + 1)) j (by omega)
    have e2 := val_take_drop u j (by omega)
    have e3 : (u.take j ++ w ++ u.drop (j + v.length + 1)).take j = u.take j := by
      rw [List.append_assoc, List.take_append_of_le_length (by simp; omega), List.take_take, Nat.min_self]
    rw [e3, hvd] at e1
    rw [e1, e2]
    have e4 := Int.mul_ediv_add_emod (val (u.drop j)) (val v)
    generalize val (u.drop j) / val v = q at *
    generalize val (u.drop j) % val v = r at *
    rw [← e4]
    grind
theorem divmod_l0 (b v : List Int) (n : Nat) (A Bn : Int) (hn : n ≤ 31) (hv : Lim v) (hbv : b.length = v.length) (hnv : v.length < 1000000000) (h2 : 2 ≤ v.length) (htop : 2147483648 ≤ v.getD (v.length - 1) 0) (hV : val v = Bn * 2 ^ n) (d : Nat) : ∀ (u q : List Int), d ≤ q.length → u.length = q.length + v.length → u.length < 2000000000 → Lim u → Lim q → val (q.take d) = 0 → val (u.drop d) < val v → val u + val v * val q = A * 2 ^ n →
    Ev (fun k => nat_DivMod.l0 k b (n : Int) u v q ((d : Int) - 1)) (dig (A / Bn), dig (A % Bn), 0) := by
  have hp := p_pos n
  have hvv := val_lt hv
  induction d with
  | zero =>
    intro u q hd hl hnu hu hq hz hlt hval
    rw [List.drop_zero] at hlt
    have hu0 := val_nonneg hu
    have htake : val (u.take b.length) = val u := by
      have e := val_take_drop u b.length (by omega)
      have h3 := val_nonneg (hu.drop b.length)
      have h4 := val_nonneg (hu.take b.length)
      rw [hbv] at e h3 h4 ⊢
      have hP := pw_pos v.length
      by_cases hz : val (u.drop v.length) = 0
      · rw [hz] at e; omega
      · have : pw v.length * 1 ≤ pw v.length * val (u.drop v.length) := Int.mul_le_mul_of_nonneg_left (by omega) (by omega)
        omega
    -- u is the rest, moved up
    have hB : 0 < Bn := by
      by_cases h : 0 < Bn
      · exact h
      · have h1 := Int.mul_le_mul_of_nonneg_right (show Bn ≤ 0 by omega) (Int.le_of_lt hp)
        rw [Int.zero_mul] at h1
        omega
    have hr : val u = (A - Bn * val q) * 2 ^ n := by
      have : (A - Bn * val q) * 2 ^ n = A * 2 ^ n - (Bn * 2 ^ n) * val q := by grind
      rw [this, ← hV]; omega
    have hr0 : 0 ≤ A - Bn * val q := by
      by_cases h : 0 ≤ A - Bn * val q
      · exact h
      · have : (A - Bn * val q) * 2 ^ n < 0 := Int.mul_neg_of_neg_of_pos (by omega) hp
        omega
    have hr1 : A - Bn * val q < Bn := by
      have : (A - Bn * val q) * 2 ^ n < Bn * 2 ^ n := by omega
      exact Int.lt_of_mul_lt_mul_right this (Int.le_of_lt hp)
    obtain ⟨e1, e2⟩ := div_unique hB (a := A) (q := val q) (r := A - Bn * val q) (by rw [Int.mul_comm]; omega) hr0 hr1
    have hright := right_ev (u.take b.length) n (hu.take _) hn (by rw [List.length_take]; omega)
    rw [htake, hr, Int.mul_ediv_cancel _ (by omega)] at hright
    refine Ev.step (fun k => ?_) (Ev.bind (f := fun k t => some (dig (A / Bn), t, 0)) hright (by rw [e2]; exact Ev.now _))
    simp only [nat_DivMod.l0]
    rw [if_neg (by omega), norm_ev q hq (by omega)]
    simp only [Option.bind_some]
    rw [if_pos (by omega), if_pos (by omega), Int.toNat_natCast, e1]
  | succ d ih =>
    intro u q hd hl hnu hu hq hz hlt hval
    obtain ⟨u', h1, h2', h3, h4, h5⟩ := digitW_ev u v d hu hv hnv hnu h2 (by omega) htop hlt
    have hdu : d < u.length := by omega
    have hdq : d < q.length := by omega
    have gd := hu.get d hdu
    have gq := hq.get d hdq
    have hv0 : 0 < val v := by
      have := val_nonneg (hu.drop (d + 1))
      omega
    have hd1 : val (u.drop d) = u[d] + 4294967296 * val (u.drop (d + 1)) := val_drop_cons u d hdu
    have hq0 : 0 ≤ val (u.drop d) / val v := Int.ediv_nonneg (val_nonneg (hu.drop d)) (by omega)
    have hq1 : val (u.drop d) / val v < 4294967296 := Int.ediv_lt_of_lt_mul hv0 (by omega)
    have hm := Int.emod_lt_of_pos (val (u.drop d)) hv0
    have hz' : val (q.take d) = 0 ∧ q[d] = 0 := by
      have e := val_take_succ q d hdq
      rw [hz] at e
      have h6 := val_nonneg (hq.take d)
      have hP := pw_pos d
      by_cases h0 : q[d] = 0
      · rw [h0] at e; exact ⟨by omega, h0⟩
      · have : pw d * 1 ≤ pw d * q[d] := Int.mul_le_mul_of_nonneg_left (by omega) (by omega)
        omega
    refine Ev.step (fun k => ?_) (Ev.bind (f := fun k bt => if (d : Int) < (q.length : Int) then nat_DivMod.l0 k b (n : Int) bt.2 v (q.set (d : Int).toNat bt.1) (wrap64 ((d : Int) - 1)) else none) h1 ?_)
    · simp only [nat_DivMod.l0]
      rw [show ((d + 1 : Nat) : Int) - 1 = (d : Int) by omega, if_pos (by omega), if_pos (by omega), w64 (x := (d : Int) + (v.length : Int)) (by omega) (by omega), w64 (x := (d : Int) + (v.length : Int) + 1) (by omega) (by omega), show (d : Int) + (v.length : Int) + 1 = ((d + v.length + 1 : Nat) : Int) by omega, if_pos (by omega), if_pos (by omega)]
    · refine Ev.congr (fun k => ?_) (ih u' (q.set d (val (u.drop d) / val v)) (by simp; omega) (by simp; omega) (by omega) h3 (hq.set _ hq0 hq1) ?_ ?_ ?_)
      · simp only []
        rw [if_pos (by omega), Int.toNat_natCast, w64 (by omega) (by omega)]
      · rw [List.take_set_of_le (Nat.le_refl d)]; exact hz'.1
      · rw [h4]; exact hm
      · rw [h5, val_set _ _ _ hdq, hz'.2]
        rw [← hval]
        grind
theorem divmod_ev (a b : List Int) (ha : Lim a) (hb : Lim b) (hna : a.length < 1000000000) (hnb : b.length < 1000000000) :
    Ev (fun k => nat_DivMod.f k a b) (if val b = 0 then ([], [], 7) else (dig (val a / val b), dig (val a % val b), 0)) := by
  have va := val_nonneg ha
  have vb := val_nonneg hb
  have la := dig_length a ha
  have lb := dig_length b hb
  have na := norm_ev a ha (by omega)
  have nb := norm_ev b hb (by omega)
  by_cases hz : val b = 0
  · rw [if_pos hz]
    refine Ev.congr (f := fun _ => some _) (fun k => ?_) (Ev.now _)
    unfold nat_DivMod.f
    rw [na, nb, hz, dig_zero]
    rfl
  rw [if_neg hz]
  have hlb : 0 < (dig (val b)).length := by
    have : dig (val b) ≠ [] := by rw [Ne, dig_eq_nil vb]; exact hz
    cases h : dig (val b) with
    | nil => exact absurd h this
    | cons _ _ => simp
  have hc := cmp_ev (dig (val a)) (dig (val b)) (dig_lim _) (dig_lim _) (by omega) (by omega)
  rw [val_dig va, val_dig vb] at hc
  refine Ev.congr (fun k => by
    unfold nat_DivMod.f
    rw [na, nb, Option.bind_some, Option.bind_some, if_neg (by omega)]) (Ev.bind hc ?_)
  by_cases hlt : val a < val b
  · refine Ev.congr (f := fun _ => some _) (fun k => by unfold cmpI; rw [if_pos hlt, if_pos (by decide)]) ?_
    rw [Int.ediv_eq_zero_of_lt va hlt, Int.emod_eq_of_lt va hlt, dig_zero]
    exact Ev.now _
  have hcm : ¬ cmpI (val a) (val b) < 0 := by unfold cmpI; rw [if_neg hlt]; split <;> decide
  by_cases h1 : (dig (val b)).length = 1
  · obtain ⟨x, hx⟩ : ∃ x, dig (val b) = [x] := List.length_eq_one_iff.1 h1
    have hxb : val b = x := by rw [← val_dig vb, hx]; simp [val]
    have hx1 : x < 4294967296 := by have := dig_lim (val b) x (by rw [hx]; simp); exact this.2
    have hs := small_ev (dig (val a)) x (dig_lim _) (by omega) (by omega) (by omega)
    rw [val_dig va] at hs
    have hm0 := Int.emod_nonneg (val a) (show x ≠ 0 by omega)
    have hm1 := Int.emod_lt_of_pos (val a) (show 0 < x by omega)
    refine Ev.congr (fun k => by
      rw [if_neg hcm, if_pos (by omega), if_pos (by omega), hx, show rd [x] 0 = x from rfl, u64 (x := x) (by omega) (by omega)]) (Ev.bind hs ?_)
    refine Ev.congr (f := fun _ => some _) (fun k => ?_) (Ev.now _)
    simp only []
    rw [of_ev _ hm0 (by omega), hxb]
    rfl
  -- the great case
  have hlast := fun h => dig_last (n := val b) h
  obtain ⟨m, hm⟩ : ∃ m, (dig (val b)).length = m + 2 := ⟨(dig (val b)).length - 2, by omega⟩
  have hlen_le : (dig (val b)).length ≤ (dig (val a)).length := by
    by_cases h : (dig (val b)).length ≤ (dig (val a)).length
    · exact h
    · have := val_lt_of_length (dig_lim (val a)) (dig_lim (val b)) (by omega) hlast
      rw [val_dig va, val_dig vb] at this
      omega
  obtain ⟨e, he⟩ : ∃ e, (dig (val a)).length = e + (m + 2) := ⟨(dig (val a)).length - (m + 2), by omega⟩
  have hmb : m + 1 < (dig (val b)).length := by omega
  have gx := (dig_lim (val b)).get (m + 1) hmb
  have hx0 : (dig (val b))[m + 1] ≠ 0 := by
    have hne : dig (val b) ≠ [] := by rw [Ne, dig_eq_nil vb]; exact hz
    have := hlast hne
    rw [List.getLast_eq_getElem] at this
    simpa [hm] using this
  obtain ⟨n, z1, z2, z3, z4⟩ := lz_ev (dig (val b))[m + 1] (by omega) gx.2
  have hp := p_pos n
  have hp1 := p_le z2
  obtain ⟨u, u1, u2, u3, u4⟩ := left_ev (dig (val a)) n (dig_lim _) z2 (by omega)
  obtain ⟨vv, v1, v2, v3, v4⟩ := left_ev (dig (val b)) n (dig_lim _) z2 (by omega)
  rw [val_dig va] at u4
  rw [val_dig vb] at v4
  have hP := pw_pos (m + 1)
  -- the divisor's value, by its highest limb
  have dB : val b = val ((dig (val b)).take (m + 1)) + pw (m + 1) * (dig (val b))[m + 1] := by
    have h := val_take_succ (dig (val b)) (m + 1) hmb
    rw [List.take_of_length_le (by omega), val_dig vb] at h
    exact h
  have lB0 := val_nonneg ((dig_lim (val b)).take (m + 1))
  have lB1 := val_lt ((dig_lim (val b)).take (m + 1))
  rw [List.length_take, Nat.min_eq_left (by omega)] at lB1
  generalize hX : (dig (val b))[m + 1] = X at *
  have hBhi : val b * 2 ^ n < pw (m + 2) := by
    have h1 : (val b + 1) * 2 ^ n ≤ (pw (m + 1) * (X + 1)) * 2 ^ n := Int.mul_le_mul_of_nonneg_right (by rw [Int.mul_add]; omega) (Int.le_of_lt hp)
    have h2 : pw (m + 1) * ((X + 1) * 2 ^ n) ≤ pw (m + 1) * 4294967296 := Int.mul_le_mul_of_nonneg_left z4 (Int.le_of_lt hP)
    rw [← Int.mul_assoc] at h2
    rw [Int.add_mul, Int.one_mul] at h1
    rw [pw_succ (m + 1)]
    omega
  have hBlo : pw (m + 1) * 2147483648 ≤ val b * 2 ^ n := by
    have h1 : (pw (m + 1) * X) * 2 ^ n ≤ val b * 2 ^ n := Int.mul_le_mul_of_nonneg_right (by omega) (Int.le_of_lt hp)
    have h2 : pw (m + 1) * 2147483648 ≤ pw (m + 1) * (X * 2 ^ n) := Int.mul_le_mul_of_nonneg_left z3 (Int.le_of_lt hP)
    rw [← Int.mul_assoc] at h2
    omega
  have hvl : (vv.take (m + 2)).length = m + 2 := by rw [List.length_take]; omega
  have hvv : val (vv.take (m + 2)) = val b * 2 ^ n := by
    have h := val_take_drop vv (m + 2) (by omega)
    have h3 := val_nonneg (v3.drop (m + 2))
    have h4 := val_nonneg (v3.take (m + 2))
    have hP2 := pw_pos (m + 2)
    by_cases h0 : val (vv.drop (m + 2)) = 0
    · rw [h0] at h; omega
    · have : pw (m + 2) * 1 ≤ pw (m + 2) * val (vv.drop (m + 2)) := Int.mul_le_mul_of_nonneg_left (by omega) (by omega)
      omega
  have hLv : Lim (vv.take (m + 2)) := v3.take _
  have htop : 2147483648 ≤ (vv.take (m + 2)).getD (m + 2 - 1) 0 := by
    have hm1 : m + 1 < (vv.take (m + 2)).length := by omega
    rw [show m + 2 - 1 = m + 1 by omega, getD_get _ _ hm1]
    have h := val_take_succ (vv.take (m + 2)) (m + 1) hm1
    rw [List.take_of_length_le (by omega), hvv] at h
    have h3 := val_lt (hLv.take (m + 1))
    rw [List.length_take, Nat.min_eq_left (by omega)] at h3
    by_cases h4 : 2147483648 ≤ (vv.take (m + 2))[m + 1]
    · exact h4
    · have h5 : pw (m + 1) * ((vv.take (m + 2))[m + 1] + 1) ≤ pw (m + 1) * 2147483648 := Int.mul_le_mul_of_nonneg_left (by omega) (Int.le_of_lt hP)
      rw [Int.mul_add, Int.mul_one] at h5
      omega
  have hul : u.length = (e + 1) + (m + 2) := by omega
  have hstart : val (u.drop (e + 1)) < val b * 2 ^ n := by
    have h := val_take_drop u (e + 1) (by omega)
    have h3 := val_nonneg (u3.take (e + 1))
    have h4 := val_lt (dig_lim (val a))
    rw [val_dig va, he] at h4
    have h5 : val a * 2 ^ n < pw (e + (m + 2)) * 2 ^ n := Int.mul_lt_mul_of_pos_right h4 hp
    have h6 : pw (e + (m + 2)) = pw (e + 1) * pw (m + 1) := by rw [← pw_add]; congr 1; omega
    have h7 : pw (e + 1) * val (u.drop (e + 1)) < pw (e + 1) * (pw (m + 1) * 2 ^ n) := by
      rw [← Int.mul_assoc, ← h6]; omega
    have h8 := Int.lt_of_mul_lt_mul_left h7 (Int.le_of_lt (pw_pos _))
    have h9 : pw (m + 1) * 2 ^ n ≤ pw (m + 1) * 2147483648 := Int.mul_le_mul_of_nonneg_left hp1 (Int.le_of_lt hP)
    omega
  have hmain := divmod_l0 (dig (val b)) (vv.take (m + 2)) n (val a) (val b) z2 hLv (by omega) (by omega) (by omega) (by rw [hvl]; exact htop) hvv (e + 1) u (List.replicate (e + 1) 0) (by simp) (by simp [hvl]; omega) (by omega) u3 (Lim.zeros _) (by rw [List.take_of_length_le (by simp), val_zeros]) (by rw [hvv]; exact hstart) (by rw [u4, val_zeros]; omega)
  refine Ev.congr (fun k => by
    rw [if_neg hcm, if_neg (by omega), w64 (x := ((dig (val b)).length : Int) - 1) (by omega) (by omega), show ((dig (val b)).length : Int) - 1 = ((m + 1 : Nat) : Int) by omega, if_pos (by omega), if_pos (by omega), rd_get _ _ hmb, hX, z1, Option.bind_some]) (Ev.bind u1 ?_)
  refine Ev.congr (fun k => rfl) (Ev.bind v1 ?_)
  refine Ev.congr (fun k => ?_) hmain
  rw [if_pos (by omega), if_pos (by omega), he, hm, w64 (x := ((e + (m + 2) : Nat) : Int) - ((m + 2 : Nat) : Int)) (by omega) (by omega), w64 (x := ((e + (m + 2) : Nat) : Int) - ((m + 2 : Nat) : Int) + 1) (by omega) (by omega), show ((e + (m + 2) : Nat) : Int) - ((m + 2 : Nat) : Int) + 1 = ((e + 1 : Nat) : Int) by omega, if_pos (by omega), if_pos (by omega), Option.bind_some, Int.toNat_natCast, Int.toNat_natCast, List.length_replicate, w64 (by omega) (by omega)]

/-! ### the greatest common divisor -/
end Go.Proofs.YthnfmmaolkenkaaDoor.V
/- nat.Sub, as a number. -/
namespace Go.Proofs.YthnfmmaolkenkaaDoor.V
set_option linter.unusedVariables false
set_option linter.unusedSimpArgs false
open Go.RowKit Go.Proofs.YthnfmmaolkenkaaDoor.PA Go.Proofs.YthnfmmaolkenkaaDoor.H Go.Proofs.YthnfmmaolkenkaaDoorW.PrintWords Go.Proofs.YthnfmmaolkenkaaDoorW.PrintLast Go.Proofs.YthnfmmaolkenkaaDoorW.PrintMore

/-! ### differences -/
theorem step_sub {P V A Bv c x y q r : Int} (h : V - P * c = A - Bv) (e : r - 4294967296 * q = x - y - c) : V + P * r - (4294967296 * P) * q = A + P * x - (Bv + P * y) := by grind
theorem sub_l0 (a b : List Int) (ha : Lim a) (hb : Lim b) (hab : val b ≤ val a) (hn : a.length ≤ 1000000000000) (d : Nat) : ∀ (i : Nat) (out : List Int) (c : Int), i + d = a.length → out.length = a.length → Lim out → 0 ≤ c → c ≤ 1 → val (out.take i) - pw i * c = val (a.take i) - val (b.take i) →
    Ev (fun k => nat_Sub.l0 k a b out c (a.length : Int) (i : Int)) (dig (val a - val b), 0) := by
  induction d with
  | zero =>
    intro i out c hi ho hL c0 c1 hv
    obtain rfl : i = a.length := by omega
    refine Ev.step (f := fun _ => some _) (fun k => ?_) (Ev.now _)
    simp only [nat_Sub.l0]
    rw [if_neg (by omega), norm_ev out hL (by omega)]
    simp only [Option.bind_some]
    rw [List.take_of_length_le (by omega), List.take_of_length_le (l := a) (by omega)] at hv
    have hbt : val (b.take a.length) = val b := by
      by_cases hl : b.length ≤ a.length
      · rw [List.take_of_length_le hl]
      · have e := val_take_drop b a.length (by omega)
        have h1 := val_lt ha
        have h2 := val_nonneg (hb.take a.length)
        have h3 := val_nonneg (hb.drop a.length)
        have h4 := pw_pos a.length
        by_cases hz : val (b.drop a.length) = 0
        · rw [hz] at e; omega
        · have : pw a.length * 1 ≤ pw a.length * val (b.drop a.length) := Int.mul_le_mul_of_nonneg_left (by omega) (by omega)
          omega
    rw [hbt] at hv
    have h1 := val_lt hL
    rw [ho] at h1
    have hc : c = 0 := by
      by_cases hc : c = 0
      · exact hc
      · have : c = 1 := by omega
        subst this
        omega
    subst hc
    congr 3
    omega
  | succ d ih =>
    intro i out c hi ho hL c0 c1 hv
    have ga := ha.getD i
    have gb := hb.getD i
    have hio : i < out.length := by omega
    have e1 : IntKind.u64.wrap ((IntKind.u64.wrap (a.getD i 0 - b.getD i 0)) - c) = (a.getD i 0 - b.getD i 0 - c) % 18446744073709551616 := by
      rw [u64e, u64e]; omega
    refine Ev.step (fun k => ?_) (ih (i + 1) (out.set i ((a.getD i 0 - b.getD i 0 - c) % 18446744073709551616 % 4294967296)) ((a.getD i 0 - b.getD i 0 - c) % 18446744073709551616 / 9223372036854775808) (by omega) (by simpa using ho) (hL.set i (by omega) (by omega)) (by omega) (by omega) ?_)
    · simp only [nat_Sub.l0]
      rw [if_pos (by omega), limb_ev a i ha, limb_ev b i hb]
      simp only [Option.bind_some]
      rw [if_pos (by omega), if_pos (by omega), e1, w64 (by omega) (by omega), Int.toNat_natCast]
      rfl
    · rw [val_set_take _ _ _ hio, val_take_getD a, val_take_getD b, pw_succ]
      exact step_sub hv (by omega)
theorem sub_ev (a b : List Int) (ha : Lim a) (hb : Lim b) (hna : a.length < 1000000000) (hnb : b.length < 1000000000) : Ev (fun k => nat_Sub.f k a b) (if val a < val b then ([], 6) else (dig (val a - val b), 0)) := by
  unfold nat_Sub.f
  refine Ev.bind (f := fun k t => _) (cmp_ev a b ha hb (by omega) (by omega)) ?_
  unfold cmpI
  by_cases h : val a < val b
  · rw [if_pos h, if_pos h]
    exact Ev.congr (fun k => by rw [if_pos (by decide)]) (Ev.now _)
  · rw [if_neg h, if_neg h]
    have := sub_l0 a b ha hb (by omega) (by omega) a.length 0 (List.replicate a.length 0) 0 (by omega) (by simp) (Lim.zeros _) (by omega) (by omega) (by simp [val])
    refine Ev.congr (fun k => ?_) this
    rw [if_neg (by split <;> decide), if_pos (by omega), if_pos (by omega)]
    simp only [Option.bind_some, Int.toNat_natCast, List.length_replicate]
    rfl
end Go.Proofs.YthnfmmaolkenkaaDoor.V
/- Are two lists the same? -/
namespace Go.Proofs.YthnfmmaolkenkaaDoor.V
set_option linter.unusedVariables false
set_option linter.unusedSimpArgs false
open Go.RowKit Go.Proofs.YthnfmmaolkenkaaDoor.PA Go.Proofs.YthnfmmaolkenkaaDoor.H Go.Proofs.YthnfmmaolkenkaaDoorW.PrintWords Go.Proofs.YthnfmmaolkenkaaDoorW.PrintLast Go.Proofs.YthnfmmaolkenkaaDoorW.PrintMore

/-! ### equality -/
theorem same_l0 (a b : List Int) (hl : a.length = b.length) (hn : a.length ≤ 1000000000) (d : Nat) : ∀ i : Nat, i + d = a.length → a.take i = b.take i → Ev (fun k => gudgeonref01_Same.l0 k a b (i : Int)) (decide (a = b)) := by
  induction d with
  | zero =>
    intro i hi he
    rw [List.take_of_length_le (by omega), List.take_of_length_le (by omega)] at he
    refine Ev.step (f := fun _ => some _) (fun k => ?_) (Ev.now _)
    simp only [gudgeonref01_Same.l0]
    rw [if_neg (by omega), decide_eq_true he]
  | succ d ih =>
    intro i hi he
    have hia : i < a.length := by omega
    have hib : i < b.length := by omega
    by_cases hx : a[i] = b[i]
    · refine Ev.step (fun k => ?_) (ih (i + 1) (by omega) (by rw [List.take_succ_eq_append_getElem hia, List.take_succ_eq_append_getElem hib, he, hx]))
      simp only [gudgeonref01_Same.l0]
      rw [if_pos (by omega), if_pos (by omega), if_pos (by omega), rd_get _ _ hia, rd_get _ _ hib, if_pos hx, w64 (by omega) (by omega)]
      rfl
    · refine Ev.step (f := fun _ => some _) (fun k => ?_) (Ev.now _)
      simp only [gudgeonref01_Same.l0]
      rw [if_pos (by omega), if_pos (by omega), if_pos (by omega), rd_get _ _ hia, rd_get _ _ hib, if_neg hx, decide_eq_false]
      intro h
      subst h
      exact hx rfl
theorem same_ev (a b : List Int) (hn : a.length ≤ 1000000000) : Ev (fun k => gudgeonref01_Same.f k a b) (decide (a = b)) := by
  by_cases hl : a.length = b.length
  · refine Ev.congr (fun k => ?_) (same_l0 a b hl hn a.length 0 (by omega) rfl)
    unfold gudgeonref01_Same.f
    rw [if_pos (by omega)]
    rfl
  · refine Ev.congr (f := fun _ => some _) (fun k => ?_) (Ev.now _)
    unfold gudgeonref01_Same.f
    rw [if_neg (by omega), decide_eq_false]
    intro h
    exact hl (by rw [h])
theorem same_self (a b : List Int) (h : a = b) (hn : a.length ≤ 1000000000) : Ev (fun k => gudgeonref01_Same.f k a b) true := by
  have := same_ev a b hn
  rwa [decide_eq_true h] at this
end Go.Proofs.YthnfmmaolkenkaaDoor.V
/- nat.Text and nat.Parse: the digits of a number, and back. -/
namespace Go.Proofs.YthnfmmaolkenkaaDoor.V
set_option linter.unusedVariables false
set_option linter.unusedSimpArgs false
open Go.RowKit Go.Proofs.YthnfmmaolkenkaaDoor.PA Go.Proofs.YthnfmmaolkenkaaDoor.H Go.Proofs.YthnfmmaolkenkaaDoorW.PrintWords Go.Proofs.YthnfmmaolkenkaaDoorW.PrintLast Go.Proofs.YthnfmmaolkenkaaDoorW.PrintMore

theorem ba_ext {a b : ByteArray} (h : a.data.toList = b.data.toList) : a = b := by
  obtain ⟨⟨a⟩⟩ := a; obtain ⟨⟨b⟩⟩ := b
  simp only at h; rw [h]
theorem bt_nat (s : ByteArray) (i : Nat) (h : i < s.data.toList.length) : bt s (i : Int) = ((s.data.toList[i]).toNat : Int) := by
  have h' : i < s.size := by rw [Lib.size_eq]; exact h
  unfold bt
  rw [dif_pos (by simpa using h')]
  rfl
theorem size_len (s : ByteArray) : s.size = s.data.toList.length := by rw [Lib.size_eq]
theorem toList_nil (s : ByteArray) : (s.toList = ([] : List UInt8)) ↔ s.data.toList = [] := by rw [Lib.toList_data]

/-- A number's decimal digits, the highest one first; none for nought. -/
def decL (n : Nat) : List UInt8 := if h : n = 0 then [] else decL (n / 10) ++ [UInt8.ofNat (48 + n % 10)]
termination_by n
decreasing_by omega
/-- A number's text. -/
def textL (n : Nat) : List UInt8 := if n = 0 then [48] else decL n
theorem decL_zero : decL 0 = [] := by rw [decL]; rfl
theorem decL_pos {n : Nat} (h : n ≠ 0) : decL n = decL (n / 10) ++ [UInt8.ofNat (48 + n % 10)] := by rw [decL, dif_neg h]
theorem decL_ne {n : Nat} (h : n ≠ 0) : decL n ≠ [] := by rw [decL_pos h]; simp
def zero48 (c : UInt8) : Bool := c == 48
theorem ofNat48 (d : Nat) (hd : d < 10) : (UInt8.ofNat (48 + d)).toNat = 48 + d := by
  simp [UInt8.toNat_ofNat']
  omega
theorem zero48_digit (d : Nat) (hd : d < 10) : zero48 (UInt8.ofNat (48 + d)) = decide (d = 0) := by
  unfold zero48
  rw [Bool.eq_iff_iff]
  simp only [beq_iff_eq, decide_eq_true_eq]
  rw [← UInt8.toNat_inj, ofNat48 d hd]
  simp
theorem drop_append_ne {p : UInt8 → Bool} {a b : List UInt8} (h : a.dropWhile p ≠ []) : (a ++ b).dropWhile p = a.dropWhile p ++ b := by
  rw [List.dropWhile_append]
  cases hd : a.dropWhile p with
  | nil => exact absurd hd h
  | cons _ _ => simp
theorem drop_append_nil {p : UInt8 → Bool} {a b : List UInt8} (h : a.dropWhile p = []) : (a ++ b).dropWhile p = b.dropWhile p := by
  rw [List.dropWhile_append, h]
  simp
/-- Without the noughts ahead, so many digits are the number's own. -/
theorem nine_drop (k : Nat) : ∀ u, u < 10 ^ k → (nineL k u).dropWhile zero48 = decL u := by
  induction k with
  | zero =>
    intro u hu
    simp at hu
    subst hu
    simp [nineL, decL_zero]
  | succ k ih =>
    intro u hu
    rw [Nat.pow_succ] at hu
    have := ih (u / 10) (by omega)
    simp only [nineL]
    by_cases h10 : u / 10 = 0
    · rw [h10, decL_zero] at this
      rw [h10, drop_append_nil this]
      have hz := zero48_digit (u % 10) (by omega)
      by_cases h0 : u % 10 = 0
      · have hu0 : u = 0 := by omega
        rw [decide_eq_true h0] at hz
        rw [List.dropWhile_cons_of_pos hz, hu0, decL_zero]
        rfl
      · rw [decide_eq_false h0] at hz
        rw [List.dropWhile_cons_of_neg (by rw [hz]; decide), decL_pos (show u ≠ 0 by omega), h10, decL_zero]
        rfl
    · rw [drop_append_ne (by rw [this]; exact decL_ne h10), this, ← decL_pos (by omega)]
theorem dec_nine (k : Nat) : ∀ q r, q ≠ 0 → r < 10 ^ k → decL (q * 10 ^ k + r) = decL q ++ nineL k r := by
  induction k with
  | zero =>
    intro q r hq hr
    simp at hr
    subst hr
    simp [nineL]
  | succ k ih =>
    intro q r hq hr
    rw [Nat.pow_succ] at hr
    have hp := Nat.pow_pos (n := k) (show 0 < 10 by omega)
    have hqp : 0 < q * 10 ^ k := Nat.mul_pos (by omega) hp
    have e1 : q * 10 ^ (k + 1) = (q * 10 ^ k) * 10 := by rw [Nat.pow_succ, Nat.mul_assoc]
    rw [e1, decL_pos (by omega), show (q * 10 ^ k * 10 + r) / 10 = q * 10 ^ k + r / 10 by omega, ih q (r / 10) hq (by omega), show (q * 10 ^ k * 10 + r) % 10 = r % 10 by omega]
    simp [nineL]
/-- What the loop of Text puts together: nine digits at a time. -/
def chunks (n : Nat) : List UInt8 := if h : n = 0 then [] else chunks (n / 1000000000) ++ nineL 9 (n % 1000000000)
termination_by n
decreasing_by omega
theorem chunks_zero : chunks 0 = [] := by rw [chunks]; rfl
theorem chunks_pos {n : Nat} (h : n ≠ 0) : chunks n = chunks (n / 1000000000) ++ nineL 9 (n % 1000000000) := by rw [chunks, dif_neg h]
theorem chunks_drop (n : Nat) : (chunks n).dropWhile zero48 = decL n := by
  induction n using Nat.strongRecOn with
  | _ n ih =>
    by_cases h : n = 0
    · subst h; rw [chunks_zero, decL_zero]; rfl
    · rw [chunks_pos h]
      have := ih (n / 1000000000) (by omega)
      by_cases hq : n / 1000000000 = 0
      · rw [hq, decL_zero] at this
        rw [hq, drop_append_nil this, nine_drop 9 _ (by omega)]
        congr 1
        omega
      · rw [drop_append_ne (by rw [this]; exact decL_ne hq), this, ← dec_nine 9 _ _ hq (by omega)]
        congr 1
        omega
theorem trimByte_ev (n : Nat) : ∀ s : ByteArray, s.data.toList.length = n → s.size ≤ 1000000000000 → Ev (fun k => strings_trimLeftByte.l0 k s 48) ⟨(s.data.toList.dropWhile zero48).toArray⟩ := by
  induction n with
  | zero =>
    intro s hs hn
    have h0 := List.eq_nil_of_length_eq_zero hs
    have h1 : s.size = 0 := by rw [size_len, hs]
    refine Ev.step (f := fun _ => some _) (fun k => ?_) (Ev.now _)
    simp only [strings_trimLeftByte.l0]
    rw [if_neg (by omega)]
    congr 1
    apply ba_ext
    rw [h0]
    rfl
  | succ n ih =>
    intro s hs hn
    have h1 : s.size = n + 1 := by rw [size_len, hs]
    have hb : bt s 0 = ((s.data.toList[0]).toNat : Int) := bt_nat s 0 (by omega)
    obtain ⟨c, r, hcr⟩ : ∃ c r, s.data.toList = c :: r := List.exists_cons_of_length_eq_add_one hs
    have hc : (s.data.toList[0]'(by omega)) = c := by simp [hcr]
    rw [hc] at hb
    have hext : (s.extract 1 s.size).data.toList = r := by
      have hrl : r.length = n := by rw [hcr] at hs; simpa using hs
      rw [Lib.extract_data, hcr, List.drop_succ_cons, List.drop_zero, List.take_of_length_le (by omega)]
    by_cases hz : c = 48
    · subst hz
      have hrl : r.length = n := by rw [hcr] at hs; simpa using hs
      have := ih (s.extract 1 s.size) (by rw [hext]; exact hrl) (by rw [size_len, hext]; omega)
      rw [hext] at this
      refine Ev.step (fun k => ?_) (show Ev _ (⟨(s.data.toList.dropWhile zero48).toArray⟩ : ByteArray) from by rw [hcr, List.dropWhile_cons_of_pos (by rfl)]; exact this)
      simp only [strings_trimLeftByte.l0]
      rw [if_pos (by omega), if_pos (by omega), hb, if_pos (by rfl), if_pos (by omega)]
    · refine Ev.step (f := fun _ => some _) (fun k => ?_) (Ev.now _)
      simp only [strings_trimLeftByte.l0]
      have hcz : zero48 c = false := by unfold zero48; simpa using hz
      have hne : ¬ ((c.toNat : Int) = 48) := by
        intro h
        apply hz
        rw [← UInt8.toNat_inj]
        have : c.toNat = 48 := by omega
        rw [this]; rfl
      rw [if_pos (by omega), if_pos (by omega), hb, if_neg hne]
      congr 1
      apply ba_ext
      rw [hcr, List.dropWhile_cons_of_neg (by rw [hcz]; decide)]
theorem trim_ev (s : ByteArray) (hn : s.size ≤ 1000000000000) : Ev (fun k => strings_TrimLeft.f k s ⟨#[48]⟩) ⟨(s.data.toList.dropWhile zero48).toArray⟩ := by
  by_cases h : s.data.toList = []
  · refine Ev.congr (f := fun _ => some _) (fun k => ?_) (Ev.now _)
    unfold strings_TrimLeft.f
    rw [if_pos rfl, if_pos ((toList_nil s).2 h)]
    congr 1
    apply ba_ext
    rw [h]
    rfl
  · refine Ev.congr (fun k => ?_) (trimByte_ev _ s rfl hn)
    unfold strings_TrimLeft.f
    rw [if_pos rfl, if_neg (fun z => h ((toList_nil s).1 z))]
    rfl
theorem nineL_length (k u : Nat) : (nineL k u).length = k := by
  induction k generalizing u with
  | zero => rfl
  | succ k ih => simp [nineL, ih]
theorem append_data (a b : ByteArray) : (a ++ b).data.toList = a.data.toList ++ b.data.toList := by
  simp [ByteArray.data_append]
theorem text_l0 (n : Nat) : ∀ s : ByteArray, (dig n).length < 1000000000 → s.size + 9 * n ≤ s.size + 9 * n → ((chunks n ++ s.data.toList).length ≤ 1000000000000) → Ev (fun k => nat_Text.l0 k (dig n) s) (⟨(if (chunks n ++ s.data.toList).dropWhile zero48 = [] then [48] else (chunks n ++ s.data.toList).dropWhile zero48).toArray⟩ : ByteArray) := by
  induction n using Nat.strongRecOn with
  | _ n ih =>
    intro s hl _ hc
    by_cases hz : n = 0
    · subst hz
      rw [chunks_zero, List.nil_append] at hc ⊢
      rw [show ((0 : Nat) : Int) = 0 from rfl, dig_zero] at hl ⊢
      have ht := trim_ev s (by rw [size_len]; omega)
      refine Ev.step (fun k => by
        simp only [nat_Text.l0]
        rw [if_neg (by simp)]) (Ev.bind ht ?_)
      by_cases he : s.data.toList.dropWhile zero48 = []
      · refine Ev.congr (f := fun _ => some _) (fun k => ?_) (Ev.now _)
        rw [if_pos he, if_pos (by rw [toList_nil]; simpa using he)]
      · refine Ev.congr (f := fun _ => some _) (fun k => ?_) (Ev.now _)
        rw [if_neg he, if_neg (by rw [toList_nil]; simpa using he)]
    · have hsm := small_ev (dig n) 1000000000 (dig_lim _) (by omega) (by omega) hl
      rw [val_dig (by omega)] at hsm
      have e1 : (n : Int) / 1000000000 = ((n / 1000000000 : Nat) : Int) := by omega
      have e2 : (n : Int) % 1000000000 = ((n % 1000000000 : Nat) : Int) := by omega
      rw [e1, e2] at hsm
      have hlen : 0 < (dig n).length := by
        have : dig (n : Int) ≠ [] := by rw [Ne, dig_eq_nil (by omega)]; omega
        cases h : dig (n : Int) with
        | nil => exact absurd h this
        | cons _ _ => simp
      have hlq : (dig ((n / 1000000000 : Nat) : Int)).length ≤ (dig (n : Int)).length := by
        have := lt_of_dig_length (n := (n : Int)) (by omega) (Nat.le_refl _)
        exact dig_length_le (by omega) (by omega)
      have hcn := chunks_pos hz
      have hst : ((⟨(nineL 9 (n % 1000000000)).toArray⟩ : ByteArray) ++ s).data.toList = nineL 9 (n % 1000000000) ++ s.data.toList := by rw [append_data]
      have := ih (n / 1000000000) (by omega) ((⟨(nineL 9 (n % 1000000000)).toArray⟩ : ByteArray) ++ s) (by omega) (by omega) (by rw [hst, ← List.append_assoc, ← hcn]; exact hc)
      rw [hst, ← List.append_assoc, ← hcn] at this
      refine Ev.step (fun k => by
        simp only [nat_Text.l0]
        rw [if_pos (by omega)]) (Ev.bind hsm ?_)
      refine Ev.congr (fun k => ?_) this
      simp only []
      have h9 : nat_nine.f ((n % 1000000000 : Nat) : Int) = some ⟨(nineL 9 (n % 1000000000)).toArray⟩ := by
        unfold nat_nine.f
        rw [if_pos (by omega), Int.toNat_natCast]
      rw [h9, Option.bind_some, if_pos]
      have z1 : (⟨(nineL 9 (n % 1000000000)).toArray⟩ : ByteArray).size = 9 := by
        rw [size_len]; simp [nineL_length]
      rw [z1, size_len]
      rw [List.length_append] at hc
      omega
theorem chunks_length (n m : Nat) (h : (n : Int) < pw m) : (chunks n).length ≤ 18 * m := by
  induction m generalizing n with
  | zero => rw [pw_zero] at h; rw [show n = 0 by omega, chunks_zero]; simp
  | succ m ih =>
    rw [pw_succ] at h
    by_cases hz : n = 0
    · rw [hz, chunks_zero]; simp
    · rw [chunks_pos hz, List.length_append, nineL_length]
      by_cases hq : n / 1000000000 = 0
      · rw [hq, chunks_zero]; simp; omega
      · rw [chunks_pos hq, List.length_append, nineL_length]
        have := ih (n / 1000000000 / 1000000000) (by omega)
        omega
theorem text_ev (l : List Int) (h : Lim l) (hn : l.length < 1000000) : Ev (fun k => nat_Text.f k l) (⟨(textL (val l).toNat).toArray⟩ : ByteArray) := by
  have hv := val_nonneg h
  have hl := val_lt h
  have hd := dig_length l h
  have hc := chunks_length (val l).toNat l.length (by omega)
  have := text_l0 (val l).toNat (⟨#[]⟩ : ByteArray) (by rw [show (((val l).toNat : Nat) : Int) = val l by omega]; omega) (Nat.le_refl _) (by simp; omega)
  rw [show (((val l).toNat : Nat) : Int) = val l by omega] at this
  have e : (chunks (val l).toNat ++ (⟨#[]⟩ : ByteArray).data.toList).dropWhile zero48 = decL (val l).toNat := by
    rw [show (⟨#[]⟩ : ByteArray).data.toList = [] from rfl, List.append_nil, chunks_drop]
  rw [e] at this
  have e2 : (if decL (val l).toNat = [] then [48] else decL (val l).toNat) = textL (val l).toNat := by
    unfold textL
    by_cases hz : (val l).toNat = 0
    · rw [if_pos hz, hz, decL_zero, if_pos rfl]
    · rw [if_neg hz, if_neg (decL_ne hz)]
  rw [e2] at this
  refine Ev.congr (fun k => ?_) this
  unfold nat_Text.f
  rw [norm_ev l h (by omega), Option.bind_some]

/-! ### Parse -/
def isD (c : UInt8) : Bool := decide (48 ≤ c.toNat) && decide (c.toNat ≤ 57)
/-- The number of digits, behind a number. -/
def decV (v : Int) : List UInt8 → Int
  | [] => v
  | c :: r => decV (v * 10 + (c.toNat - 48)) r
/-- What a text's number is: its limbs and whether it is one (8: it is none). -/
def parseR (l : List UInt8) : List Int × Int :=
  if l = [] then ([], 8) else if 2000 < l.length then ([], 8) else if l.head? = some 48 ∧ l ≠ [48] then ([], 8) else if l.all isD then (dig (decV 0 l), 0) else ([], 8)
theorem parse_l0 (s : ByteArray) (hs : s.data.toList.length ≤ 2000) (d : Nat) : ∀ (i : Nat) (v : Int), i + d = s.data.toList.length → 0 ≤ v → v < pw i →
    Ev (fun k => nat_Parse.l0 k s (dig v) (i : Int)) (if (s.data.toList.drop i).all isD then (dig (decV v (s.data.toList.drop i)), 0) else ([], 8)) := by
  induction d with
  | zero =>
    intro i v hi h0 h1
    have hl := dig_length_le h0 h1
    refine Ev.step (f := fun _ => some _) (fun k => ?_) (Ev.now _)
    simp only [nat_Parse.l0]
    rw [if_neg (by rw [size_len]; omega), norm_ev _ (dig_lim _) (by omega), List.drop_eq_nil_of_le (by omega), val_dig h0]
    rfl
  | succ d ih =>
    intro i v hi h0 h1
    have hlt : i < s.data.toList.length := by omega
    have hl := dig_length_le h0 h1
    have hdrop : s.data.toList.drop i = s.data.toList[i] :: s.data.toList.drop (i + 1) := List.drop_eq_getElem_cons hlt
    have hb := bt_nat s i hlt
    rw [hdrop]
    obtain ⟨c, hc⟩ : ∃ c, c = s.data.toList[i] := ⟨_, rfl⟩
    rw [← hc] at hb ⊢
    by_cases c1 : c.toNat < 48
    · refine Ev.step (f := fun _ => some _) (fun k => ?_) (Ev.now _)
      simp only [nat_Parse.l0]
      have hf : isD c = false := by unfold isD; simp; omega
      rw [if_pos (by rw [size_len]; omega), hb, if_pos (by omega), List.all_cons, hf]
      rfl
    by_cases c2 : 57 < c.toNat
    · refine Ev.step (f := fun _ => some _) (fun k => ?_) (Ev.now _)
      simp only [nat_Parse.l0]
      have hf : isD c = false := by unfold isD; simp; omega
      rw [if_pos (by rw [size_len]; omega), hb, if_neg (by omega), if_pos (by omega), List.all_cons, hf]
      rfl
    have ht : isD c = true := by unfold isD; simp; omega
    have hm := mul_ev (dig v) [10] (dig_lim _) (lim_one (by omega) (by omega)) (by omega) (by simp)
    rw [val_dig h0, val_one] at hm
    have h2 : v * 10 < pw (i + 1) := by rw [pw_succ]; omega
    have hml := dig_length_le (by omega) h2
    have hx0 : (0 : Int) ≤ c.toNat - 48 := by omega
    have hx1 : (c.toNat : Int) - 48 < 10 := by omega
    have ha := add_ev (dig (v * 10)) [(c.toNat : Int) - 48] (dig_lim _) (lim_one hx0 (by omega)) (by omega) (by simp)
    rw [val_dig (by omega), val_one] at ha
    have := ih (i + 1) (v * 10 + (c.toNat - 48)) (by omega) (by omega) (by rw [pw_succ]; omega)
    rw [List.all_cons, ht]
    refine Ev.step (fun k => by
      simp only [nat_Parse.l0]
      rw [if_pos (by rw [size_len]; omega), hb, if_neg (by omega), if_neg (by omega)]) (Ev.bind hm (Ev.bind ha ?_))
    refine Ev.congr (fun k => by rw [show (i : Int) + 1 = ((i + 1 : Nat) : Int) by omega]) this
theorem parse_ev (s : ByteArray) (hsz : s.size ≤ 1000000000) : Ev (fun k => nat_Parse.f k s) (parseR s.data.toList) := by
  have hl := size_len s
  unfold parseR
  by_cases h1 : s.data.toList = []
  · refine Ev.congr (f := fun _ => some _) (fun k => ?_) (Ev.now _)
    unfold nat_Parse.f
    rw [if_pos ((toList_nil s).2 h1), if_pos h1]
  rw [if_neg h1]
  have h1' : ¬ s.toList = ([] : List UInt8) := fun z => h1 ((toList_nil s).1 z)
  by_cases h2 : 2000 < s.data.toList.length
  · refine Ev.congr (f := fun _ => some _) (fun k => ?_) (Ev.now _)
    unfold nat_Parse.f
    rw [if_neg h1', if_pos (by omega), if_pos h2]
  rw [if_neg h2]
  obtain ⟨c, r, hcr⟩ : ∃ c r, s.data.toList = c :: r := by
    cases h : s.data.toList with
    | nil => exact absurd h h1
    | cons c r => exact ⟨c, r, rfl⟩
  have hb : bt s 0 = (c.toNat : Int) := by
    have := bt_nat s 0 (by rw [hcr]; simp)
    simp only [hcr, List.getElem_cons_zero] at this
    exact this
  have hiff : (bt s 0 = 48 ∧ ¬ s.toList = ([48] : List UInt8)) ↔ (s.data.toList.head? = some 48 ∧ s.data.toList ≠ [48]) := by
    rw [Lib.toList_data, hb, hcr]
    simp only [List.head?_cons, Option.some.injEq]
    constructor
    · rintro ⟨h, h'⟩
      refine ⟨?_, h'⟩
      rw [← UInt8.toNat_inj]
      have : c.toNat = 48 := by omega
      rw [this]; rfl
    · rintro ⟨rfl, h'⟩
      exact ⟨rfl, h'⟩
  by_cases h3 : s.data.toList.head? = some 48 ∧ s.data.toList ≠ [48]
  · refine Ev.congr (f := fun _ => some _) (fun k => ?_) (Ev.now _)
    unfold nat_Parse.f
    rw [if_neg h1', if_neg (by omega), if_pos (hiff.2 h3), if_pos h3]
  rw [if_neg h3]
  have := parse_l0 s (by omega) s.data.toList.length 0 0 (by omega) (by omega) (by rw [pw_zero]; omega)
  rw [List.drop_zero, dig_zero] at this
  refine Ev.congr (fun k => ?_) this
  unfold nat_Parse.f
  rw [if_neg h1', if_neg (by omega), if_neg (fun z => h3 (hiff.1 z))]
  rfl

/-! ### digits and back -/
theorem decL_length (n m : Nat) (h : n < 10 ^ m) : (decL n).length ≤ m := by
  induction m generalizing n with
  | zero => simp at h; subst h; rw [decL_zero]; simp
  | succ m ih =>
    by_cases hz : n = 0
    · subst hz; rw [decL_zero]; simp
    · rw [Nat.pow_succ] at h
      rw [decL_pos hz]
      have := ih (n / 10) (by omega)
      simp; omega
theorem textL_ne (n : Nat) : textL n ≠ [] := by unfold textL; split; · simp
                                                · rename_i h; exact decL_ne h
/-- A text of digits without a nought ahead is its number's. -/
theorem decV_nonneg (l : List UInt8) (hl : l.all isD = true) : ∀ v, 0 ≤ v → 0 ≤ decV v l := by
  induction l with
  | nil => intro v h; exact h
  | cons c l ih =>
    intro v h
    rw [List.all_cons, Bool.and_eq_true] at hl
    have : 48 ≤ c.toNat := by have := hl.1; unfold isD at this; simp at this; exact this.1
    exact ih hl.2 _ (by omega)
theorem decL_decV (l : List UInt8) (hl : l.all isD = true) : ∀ v : Nat, v ≠ 0 → decL (decV v l).toNat = decL v ++ l := by
  induction l with
  | nil => intro v h; simp [decV]
  | cons c l ih =>
    intro v h
    rw [List.all_cons, Bool.and_eq_true] at hl
    have hc : 48 ≤ c.toNat ∧ c.toNat ≤ 57 := by have := hl.1; unfold isD at this; simpa using this
    simp only [decV]
    have e : ((v : Int) * 10 + (c.toNat - 48)) = ((v * 10 + (c.toNat - 48) : Nat) : Int) := by omega
    rw [e, ih hl.2 _ (by omega), decL_pos (show v * 10 + (c.toNat - 48) ≠ 0 by omega), show (v * 10 + (c.toNat - 48)) / 10 = v by omega, show (v * 10 + (c.toNat - 48)) % 10 = c.toNat - 48 by omega, show 48 + (c.toNat - 48) = c.toNat by omega]
    simp
theorem text_parse (l : List UInt8) (h : (parseR l).2 = 0) : textL (decV 0 l).toNat = l ∧ parseR l = (dig (decV 0 l), 0) ∧ 0 ≤ decV 0 l := by
  unfold parseR at h ⊢
  by_cases h1 : l = []
  · rw [if_pos h1] at h; simp at h
  rw [if_neg h1] at h ⊢
  by_cases h2 : 2000 < l.length
  · rw [if_pos h2] at h; simp at h
  rw [if_neg h2] at h ⊢
  by_cases h3 : l.head? = some 48 ∧ l ≠ [48]
  · rw [if_pos h3] at h; simp at h
  rw [if_neg h3] at h ⊢
  by_cases h4 : l.all isD = true
  · rw [if_pos h4]
    refine ⟨?_, rfl, decV_nonneg l h4 0 (by omega)⟩
    cases l with
    | nil => exact absurd rfl h1
    | cons c r =>
      rw [List.all_cons, Bool.and_eq_true] at h4
      have hc : 48 ≤ c.toNat ∧ c.toNat ≤ 57 := by have := h4.1; unfold isD at this; simpa using this
      by_cases hz : c = 48
      · have : (c :: r : List UInt8) = [48] := by
          by_cases hr : (c :: r : List UInt8) = [48]
          · exact hr
          · exact absurd ⟨by rw [hz]; rfl, hr⟩ h3
        rw [this]; rfl
      · have hn : c.toNat ≠ 48 := fun z => hz (by rw [← UInt8.toNat_inj, z]; rfl)
        simp only [decV]
        have e : ((0 : Int) * 10 + (c.toNat - 48)) = ((c.toNat - 48 : Nat) : Int) := by omega
        rw [e]
        have hd := decL_decV r h4.2 (c.toNat - 48) (by omega)
        have hd1 : decL (c.toNat - 48) = [c] := by
          rw [decL_pos (by omega), show (c.toNat - 48) / 10 = 0 by omega, decL_zero, show (c.toNat - 48) % 10 = c.toNat - 48 by omega, show 48 + (c.toNat - 48) = c.toNat by omega]
          simp
        rw [hd1] at hd
        unfold textL
        rw [if_neg]
        · exact hd
        · intro z
          rw [z, decL_zero] at hd
          simp at hd
  · rw [if_neg h4] at h; simp at h
theorem parse_err (l : List UInt8) (h : (parseR l).2 ≠ 0) : parseR l = ([], 8) := by
  unfold parseR at h ⊢
  split
  · rfl
  · split
    · rfl
    · split
      · rfl
      · split
        · rename_i a b c d
          rw [if_neg a, if_neg b, if_neg c, if_pos d] at h
          exact absurd rfl h
        · rfl
end Go.Proofs.YthnfmmaolkenkaaDoor.V
/- What the functions of whole are, as numbers. -/
namespace Go.Proofs.YthnfmmaolkenkaaDoor.S
set_option linter.unusedVariables false
set_option linter.unusedSimpArgs false
open Go.RowKit Go.Proofs.YthnfmmaolkenkaaDoor.V Go.Proofs.YthnfmmaolkenkaaDoor.PA Go.Proofs.YthnfmmaolkenkaaDoor.H Go.Proofs.YthnfmmaolkenkaaDoorW.PrintWords Go.Proofs.YthnfmmaolkenkaaDoorW.PrintLast Go.Proofs.YthnfmmaolkenkaaDoorW.PrintMore

theorem evC {α β : Type} {o : Option α} {f : Nat → α → Option β} {a : α} {r : β} (h : o = some a) (k : Ev (fun n => f n a) r) : Ev (fun n => o.bind (f n)) r := by
 subst h; exact k
theorem evP {α : Type} {c : Prop} [Decidable c] {f g : Nat → Option α} {r : α} (h : c) (k : Ev f r) : Ev (fun n => if c then f n else g n) r := by
 simp only [if_pos h]; exact k
theorem evN {α : Type} {c : Prop} [Decidable c] {f g : Nat → Option α} {r : α} (h : ¬ c) (k : Ev g r) : Ev (fun n => if c then f n else g n) r := by
 simp only [if_neg h]; exact k
theorem evR {α : Type} {a r : α} (h : a = r) : Ev (fun _ => some a) r := by subst h; exact Ev.now _
theorem lim_wf {l : List Int} (h : ∀ x ∈ l, (Lit.int .u32 x).wf = true) : Lim l := fun x hx => by have := bounds_u32 (h x hx); omega
theorem len_add {x y : Int} (hx : 0 ≤ x) (hy : 0 ≤ y) : (dig (x + y)).length ≤ max (dig x).length (dig y).length + 1 := by
 refine dig_length_le (by omega) ?_
 have h1 := lt_of_dig_length (k := max (dig x).length (dig y).length) hx (by omega)
 have h2 := lt_of_dig_length (k := max (dig x).length (dig y).length) hy (by omega)
 rw [pw_succ]; have := pw_pos (max (dig x).length (dig y).length); omega
theorem len_le {x y : Int} (hx : 0 ≤ x) (h : x ≤ y) : (dig x).length ≤ (dig y).length := by
 have h2 := lt_of_dig_length (k := (dig y).length) (Int.le_trans hx h) (Nat.le_refl _)
 exact dig_length_le hx (Int.lt_of_le_of_lt h h2)

/-- The number of a sign and limbs. -/
def wv (n : Bool) (l : List Int) : Int := if n then -val l else val l
def az (z : Int) : Int := if z < 0 then -z else z
theorem az_nonneg (z : Int) : 0 ≤ az z := by unfold az; split <;> omega
theorem az_neg (z : Int) : az (-z) = az z := by unfold az; split <;> split <;> omega
/-- A number in its own form. -/
def W (z : Int) : Bool × List Int := (decide (z < 0), dig (az z))
theorem W_lim (z : Int) : Lim (W z).2 := dig_lim _
theorem wv_W (z : Int) : wv (W z).1 (W z).2 = z := by
 unfold wv W az
 by_cases h : z < 0
 ·rw [decide_eq_true h, if_pos rfl, if_pos h, val_dig (by omega)]; omega
 ·rw [decide_eq_false h, if_neg Bool.false_ne_true, if_neg h, val_dig (by omega)]
theorem val_W (z : Int) : val (W z).2 = az z := val_dig (az_nonneg z)
theorem az_wv (n : Bool) {l : List Int} (h : Lim l) : az (wv n l) = val l := by
 have := val_nonneg h
 unfold az wv; cases n <;> simp <;> omega
/-- At most so many limbs. -/
def B (n : Nat) (z : Int) : Prop := (dig (az z)).length ≤ n
theorem B_in (n : Bool) {l : List Int} (h : Lim l) : B l.length (wv n l) := by unfold B; rw [az_wv n h]; exact dig_length l h
theorem B.mono {m n : Nat} {z : Int} (h : B m z) (hmn : m ≤ n) : B n z := Nat.le_trans h hmn
theorem B.neg {n : Nat} {z : Int} (h : B n z) : B n (-z) := by unfold B; rw [az_neg]; exact h
theorem B.add {m : Nat} {x y : Int} (hx : B m x) (hy : B m y) : B (m + 1) (x + y) := by
 have hl : az (x + y) ≤ az x + az y := by unfold az; split <;> split <;> split <;> omega
 have h1 := len_le (az_nonneg _) hl
 have h2 := len_add (az_nonneg x) (az_nonneg y)
 unfold B at *; omega
theorem B.len {n : Nat} {z : Int} (h : B n z) : (W z).2.length ≤ n := h

theorem made_ev (b : Bool) (l : List Int) (h : Lim l) (hn : l.length ≤ 1000000000000) : whole_made.f b l = some (W (wv b l)) := by
 have v := val_nonneg h
 unfold whole_made.f W
 rw [norm_ev l h hn, Option.bind_some, az_wv b h]
 cases b with
 | true =>
  rw [if_pos rfl]
  congr 2
  refine decide_eq_decide.2 ?_
  have := dig_eq_nil v
  unfold wv; rw [if_pos rfl]
  constructor
  ·intro z
   have hne : ¬ val l = 0 := fun y => by rw [this.2 y] at z; simp at z
   omega
  ·intro z
   have hne : dig (val l) ≠ [] := fun y => by have := this.1 y; omega
   have := List.length_pos_iff.2 hne
   omega
 | false =>
  rw [if_neg (by decide)]
  congr 2
  unfold wv; rw [if_neg (by decide)]
  exact (decide_eq_false (by omega)).symm
theorem made2 (b : Bool) (l : List Int) (h : Lim l) (hn : l.length ≤ 1000000000000) : ((whole_made.f b l).bind fun bt => some (bt.1, bt.2)) = some (W (wv b l)) := by
 rw [made_ev b l h hn]; rfl
theorem wNorm_ev (b : Bool) (l : List Int) (h : Lim l) (hn : l.length ≤ 1000000000000) : whole_Norm.f b l = some (W (wv b l)) := made2 b l h hn
theorem wNeg_ev (b : Bool) (l : List Int) (h : Lim l) (hn : l.length ≤ 1000000000000) : whole_Neg.f b l = some (W (-wv b l)) := by
 unfold whole_Neg.f
 rw [made2 _ l h hn]
 congr 2; unfold wv; cases b <;> simp
def sg (z : Int) : Int := if z < 0 then -1 else if z > 0 then 1 else 0
theorem dig_az (z : Int) : ((dig (az z)).length : Int) > 0 ↔ z ≠ 0 := by
 have := dig_eq_nil (az_nonneg z)
 have e : az z = 0 ↔ z = 0 := by unfold az; split <;> omega
 constructor
 ·intro h hz
  rw [this.2 (e.2 hz)] at h; simp at h
 ·intro h
  have hne : dig (az z) ≠ [] := fun y => h (e.1 (this.1 y))
  have := List.length_pos_iff.2 hne
  omega
theorem wSign_ev (b : Bool) (l : List Int) (h : Lim l) (hn : l.length ≤ 1000000000000) : whole_Sign.f b l = some (sg (wv b l)) := by
 unfold whole_Sign.f
 rw [wNorm_ev b l h hn, Option.bind_some]
 generalize wv b l = z
 unfold W sg
 by_cases h1 : z < 0
 ·rw [decide_eq_true h1, if_pos rfl, if_pos h1]
 ·rw [decide_eq_false h1, if_neg Bool.false_ne_true, if_neg h1]
  by_cases h2 : z > 0
  ·rw [if_pos ((dig_az z).2 (by omega)), if_pos h2]
  ·rw [if_neg (fun y => (dig_az z).1 y (by omega)), if_neg h2]
theorem wOf_ev (n : Int) (h0 : -9223372036854775808 ≤ n) (h1 : n ≤ 9223372036854775807) : whole_Of.f n = some (W n) := by
 unfold whole_Of.f
 by_cases h : n < 0
 ·have e : IntKind.u64.wrap (-(IntKind.u64.wrap n)) = -n := by rw [u64e, u64e]; omega
  have hl : (dig (-n)).length ≤ 2 := dig_length_le (by omega) (by rw [show pw 2 = 18446744073709551616 from rfl]; omega)
  rw [if_pos h, e, of_ev (-n) (by omega) (by omega), Option.bind_some, made2 true _ (dig_lim _) (by omega)]
  congr 2; unfold wv; rw [if_pos rfl, val_dig (by omega)]; omega
 ·have e : IntKind.u64.wrap n = n := by rw [u64e]; omega
  have hl : (dig n).length ≤ 2 := dig_length_le (by omega) (by rw [show pw 2 = 18446744073709551616 from rfl]; omega)
  rw [if_neg h, e, of_ev n (by omega) (by omega), Option.bind_some, made2 false _ (dig_lim _) (by omega)]
  congr 2; unfold wv; rw [if_neg (by decide), val_dig (by omega)]
theorem pair_ev {α β : Type} {f : Nat → Option (α × β)} {r : α × β} (h : Ev f r) : Ev (fun k => (f k).bind fun bt => some (bt.1, bt.2)) r := Ev.bind h (evR rfl)
theorem euclid {a b q r : Int} (hb : b ≠ 0) (h : b * q + r = a) (h0 : 0 ≤ r) (h1 : r < b.natAbs) : a / b = q ∧ a % b = r := by
 by_cases hp : 0 < b
 ·exact div_unique hp (by rw [Int.mul_comm]; exact h) h0 (by omega)
 ·have := div_unique (a := a) (b := -b) (q := -q) (r := r) (by omega) (by rw [Int.neg_mul_neg, Int.mul_comm]; exact h) h0 (by omega)
  rw [Int.ediv_neg, Int.emod_neg] at this
  exact ⟨by omega, this.2⟩
theorem lim1 : Lim [1] := lim_one (by omega) (by omega)
theorem wDivMod_ev (a b : Bool) (x y : List Int) (hx : Lim x) (hy : Lim y) (nx : x.length < 100000000) (ny : y.length < 100000000) :
  Ev (fun k => whole_DivMod.f k a x b y) (if wv b y = 0 then (false, [], false, [], 7) else ((W (wv a x / wv b y)).1, (W (wv a x / wv b y)).2, (W (wv a x % wv b y)).1, (W (wv a x % wv b y)).2, 0)) := by
 have bx := B_in a hx
 have by' := B_in b hy
 refine Ev.congr (fun k => rfl) (evC (wNorm_ev a x hx (by omega)) (evC (wNorm_ev b y hy (by omega)) ?_))
 generalize wv a x = p at *
 generalize wv b y = q at *
 have lp := bx.len
 have lq := by'.len
 refine Ev.bind (divmod_ev _ _ (W_lim p) (W_lim q) (by omega) (by omega)) ?_
 rw [val_W, val_W]
 by_cases h0 : q = 0
 ·subst h0
  rw [show az 0 = 0 from rfl, if_pos rfl, if_pos rfl]
  exact evN (by decide) (evR rfl)
 have hq : az q ≠ 0 := by unfold az; split <;> omega
 have hq0 := az_nonneg q
 have hp0 := az_nonneg p
 rw [if_neg hq, if_neg h0]
 refine evP rfl ?_
 have d0 : 0 ≤ az p / az q := Int.ediv_nonneg hp0 hq0
 have m0 : 0 ≤ az p % az q := Int.emod_nonneg _ hq
 have m1 : az p % az q < az q := Int.emod_lt_of_pos _ (by omega)
 have dm : az q * (az p / az q) + az p % az q = az p := Int.mul_ediv_add_emod _ _
 have dle : az p / az q ≤ az p := Int.ediv_le_self _ hp0
 have l1 := len_le d0 dle
 have l2 := len_le m0 (Int.le_of_lt m1)
 have lW : ∀ z : Int, (W z).2.length = (dig (az z)).length := fun z => rfl
 rw [lW] at lp lq
 have plain : (p < 0 → az p % az q = 0) → p / q = wv (decide (p < 0) != decide (q < 0)) (dig (az p / az q)) ∧ p % q = az p % az q := by
  intro hs
  have hu : q * wv (decide (p < 0) != decide (q < 0)) (dig (az p / az q)) + az p % az q = p := by
   unfold wv
   rw [val_dig d0]
   generalize az p / az q = D at *
   unfold az at *
   by_cases h1 : p < 0
   ·have := hs h1
    by_cases h2 : q < 0
    ·simp only [h1, h2, decide_true, bne_self_eq_false, Bool.false_eq_true, if_false, if_true] at *
     grind
    ·simp only [h1, h2, decide_true, decide_false, if_false, if_true] at *
     simp at *
     grind
   ·by_cases h2 : q < 0
    ·simp only [h1, h2, decide_true, decide_false, if_false, if_true] at *
     simp at *
     grind
    ·simp only [h1, h2, decide_false, bne_self_eq_false, Bool.false_eq_true, if_false] at *
     exact dm
  have hr : az p % az q < q.natAbs := by
   have : az q = q.natAbs := by unfold az; split <;> omega
   omega
  exact euclid h0 hu m0 hr
 have hlen : ((dig (az p % az q)).length : Int) = 0 ↔ az p % az q = 0 := by
  have := dig_eq_nil m0
  rw [← this, ← List.length_eq_zero_iff]; omega
 have pos : (p < 0 → az p % az q = 0) → Ev (fun k => whole_DivMod.j0 k (dig (az p / az q)) (dig (az p % az q)) true (W p).1 (W p).2 (W q).1 (W q).2) ((W (p / q)).1, (W (p / q)).2, (W (p % q)).1, (W (p % q)).2, 0) := by
  intro hs
  obtain ⟨e1, e2⟩ := plain hs
  refine Ev.step (fun k => by rw [whole_DivMod.j0]) (evP rfl ?_)
  refine evC (made_ev _ _ (dig_lim _) (by omega)) (evC (made_ev _ _ (dig_lim _) (by omega)) (evR ?_))
  have e3 : wv false (dig (az p % az q)) = p % q := by unfold wv; rw [if_neg (by decide), val_dig m0, e2]
  show ((W (wv (decide (p < 0) != decide (q < 0)) (dig (az p / az q)))).1, (W (wv (decide (p < 0) != decide (q < 0)) (dig (az p / az q)))).2, (W (wv false (dig (az p % az q)))).1, (W (wv false (dig (az p % az q)))).2, (0 : Int)) = _
  rw [e3, ← e1]
 by_cases h1 : p < 0
 ·have hW : (W p).1 = true := decide_eq_true h1
  refine evP hW ?_
  by_cases h2 : az p % az q = 0
  ·have e : (((dig (az p % az q)).length : Int) == 0) = true := beq_iff_eq.2 (hlen.2 h2)
   simp only [e]
   exact pos (fun _ => h2)
  ·have e : (((dig (az p % az q)).length : Int) == 0) = false := by rw [beq_eq_false_iff_ne]; exact fun z => h2 (hlen.1 z)
   simp only [e]
   have l3 := len_le (x := az q - az p % az q) (y := az q) (by omega) (by omega)
   have l4 := len_add d0 (show (0 : Int) ≤ 1 by omega)
   have l5 : (dig 1).length ≤ 1 := dig_length_le (by omega) (by rw [show pw 1 = 4294967296 from rfl]; omega)
   have Sb := sub_ev (W q).2 (dig (az p % az q)) (W_lim q) (dig_lim _) (by rw [lW]; omega) (by omega)
   rw [val_W, val_dig m0, if_neg (by omega)] at Sb
   have Ad := add_ev (dig (az p / az q)) [1] (dig_lim _) lim1 (by omega) (by decide)
   rw [val_dig d0, val_one] at Ad
   refine Ev.step (fun k => by rw [whole_DivMod.j0]) (evN (by decide) ?_)
   refine Ev.bind Sb (Ev.bind Ad (evC (made_ev _ _ (dig_lim _) (by omega)) (evC (made_ev _ _ (dig_lim _) (by show (dig (az q - az p % az q)).length ≤ _; omega)) (evR ?_))))
   have e3 : wv false (dig (az q - az p % az q)) = az q - az p % az q := by unfold wv; rw [if_neg (by decide), val_dig (by omega)]
   have hu : q * wv ((W p).1 != (W q).1) (dig (az p / az q + 1)) + (az q - az p % az q) = p := by
    unfold wv
    rw [val_dig (by omega)]
    generalize az p / az q = D at *
    unfold W
    unfold az at *
    by_cases h2 : q < 0
    ·simp only [h1, h2, decide_true, bne_self_eq_false, Bool.false_eq_true, if_false, if_true] at *
     grind
    ·simp only [h1, h2, decide_true, decide_false, if_false, if_true] at *
     simp at *
     grind
   have hr : az q = q.natAbs := by unfold az; split <;> omega
   obtain ⟨z1, z2⟩ := euclid h0 hu (by omega) (by omega)
   show (_, _, (W (wv false (dig (az q - az p % az q)))).1, (W (wv false (dig (az q - az p % az q)))).2, (0 : Int)) = _
   rw [e3, z1, z2]
 ·have hW : (W p).1 = false := decide_eq_false h1
  exact evN (by rw [hW]; decide) (pos (fun y => absurd y h1))
/-- Rounded down. -/
def fl (a b : Int) : Int := if b < 0 then -a / -b else a / b
theorem sg_neg (z : Int) : sg z < 0 ↔ z < 0 := by unfold sg; split <;> (try split) <;> omega
theorem wFloor_ev (a b : Bool) (x y : List Int) (hx : Lim x) (hy : Lim y) (nx : x.length < 100000000) (ny : y.length < 100000000) :
  Ev (fun k => whole_Floor.f k a x b y) (if wv b y = 0 then (false, [], 7) else ((W (fl (wv a x) (wv b y))).1, (W (fl (wv a x) (wv b y))).2, 0)) := by
 have bx := (B_in a hx).neg.len
 have by' := (B_in b hy).neg.len
 refine Ev.congr (fun k => rfl) (evC (wSign_ev b y hy (by omega)) ?_)
 by_cases h : wv b y < 0
 ·refine evP ((sg_neg _).2 h) (evC (wNeg_ev a x hx (by omega)) (evC (wNeg_ev b y hy (by omega)) ?_))
  have D := wDivMod_ev (W (-wv a x)).1 (W (-wv b y)).1 (W (-wv a x)).2 (W (-wv b y)).2 (W_lim _) (W_lim _) (by omega) (by omega)
  rw [wv_W, wv_W, if_neg (by omega)] at D
  refine Ev.bind D (evR ?_)
  rw [if_neg (by omega)]; unfold fl; rw [if_pos h]
 ·refine evN (fun z => h ((sg_neg _).1 z)) (Ev.bind (wDivMod_ev a b x y hx hy nx ny) (evR ?_))
  unfold fl; rw [if_neg h]
  split <;> rfl
end Go.Proofs.YthnfmmaolkenkaaDoor.S
/- The reference's numbers by bits, the lowest one first: what its functions compute, as numbers. -/
namespace Go.Proofs.YthnfmmaolkenkaaDoor.V
set_option linter.unusedVariables false
set_option linter.unusedSimpArgs false
open Go.RowKit Go.Proofs.YthnfmmaolkenkaaDoor.PA Go.Proofs.YthnfmmaolkenkaaDoor.H Go.Proofs.YthnfmmaolkenkaaDoorW.PrintWords Go.Proofs.YthnfmmaolkenkaaDoorW.PrintLast Go.Proofs.YthnfmmaolkenkaaDoorW.PrintMore

def b2i (b : Bool) : Int := if b then 1 else 0
theorem b2i_rng (b : Bool) : 0 ≤ b2i b ∧ b2i b ≤ 1 := by cases b <;> simp [b2i]
/-- What bits are worth. -/
def bval : List Bool → Int
  | [] => 0
  | b :: r => b2i b + 2 * bval r
def p2 (n : Nat) : Int := 2 ^ n
theorem p2_zero : p2 0 = 1 := rfl
theorem p2_succ (n : Nat) : p2 (n + 1) = 2 * p2 n := by unfold p2; rw [Int.pow_succ]; omega
theorem p2_pos (n : Nat) : 0 < p2 n := by
  induction n with
  | zero => decide
  | succ n ih => rw [p2_succ]; omega
theorem p2_add (m n : Nat) : p2 (m + n) = p2 m * p2 n := by unfold p2; exact Int.pow_add ..
theorem p2_le {a b : Nat} (h : a ≤ b) : p2 a ≤ p2 b := by
  obtain ⟨d, rfl⟩ := Nat.exists_eq_add_of_le h
  rw [p2_add]
  have := p2_pos a
  have := p2_pos d
  calc p2 a = p2 a * 1 := by omega
    _ ≤ _ := Int.mul_le_mul_of_nonneg_left (by omega) (by omega)
theorem pw_p2 (n : Nat) : pw n = p2 (32 * n) := by unfold pw p2; rw [show (4294967296 : Int) = 2 ^ 32 from rfl, Int.pow_mul]
theorem bval_nonneg (l : List Bool) : 0 ≤ bval l := by
  induction l with
  | nil => simp [bval]
  | cons b l ih => have := b2i_rng b; simp only [bval]; omega
theorem bval_lt (l : List Bool) : bval l < p2 l.length := by
  induction l with
  | nil => simp [bval, p2_zero]
  | cons b l ih => have := b2i_rng b; simp only [bval, List.length_cons, p2_succ]; omega
theorem bval_append (a b : List Bool) : bval (a ++ b) = bval a + p2 a.length * bval b := by
  induction a with
  | nil => simp [bval, p2_zero]
  | cons x a ih => simp only [List.cons_append, bval, ih, List.length_cons, p2_succ]; grind
theorem bval_snoc (a : List Bool) (x : Bool) : bval (a ++ [x]) = bval a + p2 a.length * b2i x := by rw [bval_append]; simp [bval]
/-- A number's bits, without noughts behind. -/
def bitN (n : Nat) : List Bool := if h : n = 0 then [] else decide (n % 2 = 1) :: bitN (n / 2)
termination_by n
decreasing_by omega
def bits (n : Int) : List Bool := bitN n.toNat
theorem bits_zero : bits 0 = [] := by unfold bits; rw [bitN]; rfl
theorem bval_bitN (n : Nat) : bval (bitN n) = n := by
  induction n using Nat.strongRecOn with
  | _ n ih =>
    rw [bitN]
    split
    · rename_i h; simp [bval, h]
    · simp only [bval]; rw [ih _ (by omega)]
      by_cases h : n % 2 = 1
      · rw [decide_eq_true h]; simp only [b2i, if_true]; omega
      · rw [decide_eq_false h]; simp only [b2i, Bool.false_eq_true, if_false]; omega
theorem bval_bits {n : Int} (h : 0 ≤ n) : bval (bits n) = n := by unfold bits; rw [bval_bitN]; omega
theorem bits_cons (b : Bool) (n : Int) (hn : 0 ≤ n) (h : b2i b + 2 * n ≠ 0) : bits (b2i b + 2 * n) = b :: bits n := by
  have hb := b2i_rng b
  unfold bits
  rw [bitN, dif_neg (by omega)]
  have e1 : decide ((b2i b + 2 * n).toNat % 2 = 1) = b := by
    cases b
    · rw [decide_eq_false]; simp only [b2i, Bool.false_eq_true, if_false]; omega
    · rw [decide_eq_true]; simp only [b2i, if_true]; omega
  have e2 : (b2i b + 2 * n).toNat / 2 = n.toNat := by omega
  rw [e1, e2]
theorem bits_last (l : List Bool) : bits (bval (l ++ [true])) = l ++ [true] := by
  induction l with
  | nil => have := bits_cons true 0 (by omega) (by decide); rw [bits_zero] at this; simpa [bval] using this
  | cons b l ih =>
    have h0 := bval_nonneg (l ++ [true])
    have h1 : 0 < bval (l ++ [true]) := by
      rw [bval_snoc]
      have := bval_nonneg l
      have := p2_pos l.length
      simp [b2i]; omega
    have hb := b2i_rng b
    simp only [List.cons_append, bval]
    rw [bits_cons b _ h0 (by omega), ih]
theorem bits_length_le {n : Int} {k : Nat} (h0 : 0 ≤ n) (h : n < p2 k) : (bits n).length ≤ k := by
  induction k generalizing n with
  | zero => rw [p2_zero] at h; rw [show n = 0 by omega, bits_zero]; simp
  | succ k ih =>
    rw [p2_succ] at h
    by_cases hn : n = 0
    · rw [hn, bits_zero]; simp
    · have e : n = b2i (decide (n % 2 = 1)) + 2 * (n / 2) := by
        by_cases h : n % 2 = 1
        · rw [decide_eq_true h]; simp only [b2i, if_true]; omega
        · rw [decide_eq_false h]; simp only [b2i, Bool.false_eq_true, if_false]; omega
      rw [e, bits_cons _ _ (by omega) (by omega)]
      have := ih (n := n / 2) (by omega) (by omega)
      simp; omega
theorem lt_of_bits_length {n : Int} {k : Nat} (h0 : 0 ≤ n) (h : (bits n).length ≤ k) : n < p2 k := by
  have := bval_lt (bits n)
  rw [bval_bits h0] at this
  have := p2_le h
  omega
theorem rdOf_D (l : List Bool) (i : Nat) : rdOf false l (i : Int) = l.getD i false := by simp [rdOf]
theorem bval_take_getD (l : List Bool) (i : Nat) : bval (l.take (i + 1)) = bval (l.take i) + p2 i * b2i (l.getD i false) := by
  by_cases h : i < l.length
  · rw [List.take_succ_eq_append_getElem h, bval_snoc, List.length_take, Nat.min_eq_left (Nat.le_of_lt h)]
    simp [h]
  · rw [List.take_of_length_le (by omega), List.take_of_length_le (by omega), List.getD_eq_getElem?_getD, List.getElem?_eq_none (by omega)]
    simp [b2i]
theorem bval_drop_getD (l : List Bool) (i : Nat) : bval (l.drop i) = b2i (l.getD i false) + 2 * bval (l.drop (i + 1)) := by
  by_cases h : i < l.length
  · rw [List.drop_eq_getElem_cons h]
    simp [bval, h]
  · rw [List.drop_eq_nil_of_le (by omega), List.drop_eq_nil_of_le (by omega), List.getD_eq_getElem?_getD, List.getElem?_eq_none (by omega)]
    simp [b2i, bval]
def LB (l : List Bool) : Prop := l.length ≤ 1000000000
theorem btrim_l0 (l : List Bool) (hn : l.length ≤ 2000000000) (d : Nat) (hd : d ≤ l.length) (he : bval l = bval (l.take d)) : Ev (fun k => gudgeonref01_trim.l0 k l (d : Int)) (bits (bval l)) := by
  induction d with
  | zero =>
    refine Ev.step (f := fun _ => some _) (fun k => ?_) (Ev.now _)
    simp only [gudgeonref01_trim.l0]
    rw [if_neg (by omega), if_pos (by omega), if_pos (by omega), if_pos (by simp), he]
    simp [bval, bits_zero]
  | succ d ih =>
    have hdl : d < l.length := by omega
    have e1 : l.take (d + 1) = l.take d ++ [l[d]] := List.take_succ_eq_append_getElem hdl
    have hg : l.getD d false = l[d] := by simp [hdl]
    cases hb : l[d] with
    | true =>
      refine Ev.step (f := fun _ => some _) (fun k => ?_) (Ev.now _)
      simp only [gudgeonref01_trim.l0]
      rw [if_pos (by omega), w64 (x := ((d + 1 : Nat) : Int) - 1) (by omega) (by omega), show ((d + 1 : Nat) : Int) - 1 = (d : Int) by omega, if_pos (by omega), if_pos (by omega), rdOf_D, hg, hb, if_pos rfl, if_pos (by omega), if_pos (by omega), if_pos (by simp; omega), he, Int.toNat_natCast, e1, hb, bits_last]
      rfl
    | false =>
      rw [e1, hb] at he
      have : bval (l.take d ++ [false]) = bval (l.take d) := by rw [bval_snoc]; simp [b2i]
      rw [this] at he
      refine Ev.step (fun k => ?_) (ih (by omega) he)
      simp only [gudgeonref01_trim.l0]
      rw [if_pos (by omega), w64 (x := ((d + 1 : Nat) : Int) - 1) (by omega) (by omega), show ((d + 1 : Nat) : Int) - 1 = (d : Int) by omega, if_pos (by omega), if_pos (by omega), rdOf_D, hg, hb, if_neg (by decide)]
theorem btrim_ev (l : List Bool) (hn : l.length ≤ 2000000000) : Ev (fun k => gudgeonref01_trim.f k l) (bits (bval l)) :=
  Ev.congr (fun k => rfl) (btrim_l0 l hn l.length (Nat.le_refl _) (by rw [List.take_of_length_le (Nat.le_refl _)]))
theorem Bits_l1 (l : List Int) (hL : Lim l) (hn : l.length < 10000000) (i : Nat) (hi : i < l.length) (r : List Bool)
    (hc : ∀ out, out.length = 32 * (i + 1) → bval out = val (l.take (i + 1)) → Ev (fun k => gudgeonref01_Bits.l0 k l out ((i + 1 : Nat) : Int)) r) (d : Nat) : ∀ (j : Nat) (out : List Bool) (x : Int), j + d = 32 → out.length = 32 * i + j → 0 ≤ x → x < p2 d → bval out + p2 (32 * i + j) * x = val (l.take (i + 1)) →
    Ev (fun k => gudgeonref01_Bits.l1 k l out (i : Int) x (j : Int)) r := by
  induction d with
  | zero =>
    intro j out x hj ho x0 x1 hv
    rw [p2_zero] at x1
    obtain rfl : x = 0 := by omega
    rw [Int.mul_zero, Int.add_zero] at hv
    refine Ev.step (fun k => ?_) (hc out (by omega) hv)
    simp only [gudgeonref01_Bits.l1]
    rw [if_neg (by omega), w64 (by omega) (by omega)]
    rfl
  | succ d ih =>
    intro j out x hj ho x0 x1 hv
    rw [p2_succ] at x1
    have hbit : ((Int.tmod x 2) == 1) = decide (x % 2 = 1) := by
      rw [Int.tmod_eq_emod_of_nonneg x0, Bool.eq_iff_iff]; simp
    have hx32 : x < 4294967296 := by
      have := p2_le (show d + 1 ≤ 32 by omega)
      rw [p2_succ] at this
      have e : p2 32 = 4294967296 := rfl
      omega
    refine Ev.step (fun k => ?_) (ih (j + 1) (out ++ [decide (x % 2 = 1)]) (x / 2) (by omega) (by simp; omega) (by omega) (by omega) ?_)
    · simp only [gudgeonref01_Bits.l1]
      rw [if_pos (by omega), if_pos (by omega), hbit, Int.tdiv_eq_ediv_of_nonneg x0, Int.emod_eq_of_lt (a := x / 2) (by omega) (by omega), w64 (by omega) (by omega)]
      rfl
    · rw [bval_snoc, ho, ← Nat.add_assoc, p2_succ, ← hv]
      have e : b2i (decide (x % 2 = 1)) = x % 2 := by
        by_cases h : x % 2 = 1
        · rw [decide_eq_true h, h]; rfl
        · rw [decide_eq_false h]; simp only [b2i, Bool.false_eq_true, if_false]; omega
      rw [e]
      have := Int.mul_ediv_add_emod x 2
      generalize x / 2 = q at *
      generalize x % 2 = r at *
      grind
theorem Bits_l0 (l : List Int) (hL : Lim l) (hn : l.length < 10000000) (d : Nat) : ∀ (i : Nat) (out : List Bool), i + d = l.length → out.length = 32 * i → bval out = val (l.take i) →
    Ev (fun k => gudgeonref01_Bits.l0 k l out (i : Int)) (bits (val l)) := by
  induction d with
  | zero =>
    intro i out hi ho hv
    rw [List.take_of_length_le (by omega)] at hv
    have := btrim_ev out (by omega)
    rw [hv] at this
    refine Ev.step (fun k => ?_) (Ev.bind (f := fun _ t => some t) this (Ev.now _))
    simp only [gudgeonref01_Bits.l0]
    rw [if_neg (by omega)]
  | succ d ih =>
    intro i out hi ho hv
    have hil : i < l.length := by omega
    have g := hL.get i hil
    refine Ev.step (fun k => ?_) (Bits_l1 l hL hn i hil _ (fun out' h1 h2 => ih (i + 1) out' (by omega) h1 h2) 32 0 out l[i] (by omega) (by omega) g.1 g.2 ?_)
    · simp only [gudgeonref01_Bits.l0]
      rw [if_pos (by omega), if_pos (by omega), rd_get _ _ hil]
      rfl
    · rw [Nat.add_zero, hv, val_take_succ _ _ hil, pw_p2]
theorem Bits_ev (l : List Int) (hL : Lim l) (hn : l.length < 10000000) : Ev (fun k => gudgeonref01_Bits.f k l) (bits (val l)) :=
  Ev.congr (fun k => rfl) (Bits_l0 l hL hn l.length 0 [] (by omega) rfl (by simp [val, bval]))
theorem at_ev (l : List Bool) (i : Nat) : gudgeonref01_at.f l (i : Int) = some (l.getD i false) := by
  unfold gudgeonref01_at.f
  by_cases h : i < l.length
  · rw [if_pos (by omega), if_pos (by omega), rdOf_D]
  · rw [if_neg (by omega), List.getD_eq_getElem?_getD, List.getElem?_eq_none (by omega)]; rfl
/-! ### order -/
/-! ### sums -/
theorem step_badd {V P c A B x y q r : Int} (h : V + P * c = A + B) (e : r + 2 * q = c + (x + y)) : V + P * r + (2 * P) * q = A + P * x + (B + P * y) := by grind
theorem badd_j2 (a b : List Bool) (out : List Bool) (c x y : Bool) (i : Nat) (n : Int) (hn : n = b2i x) (ho : out.length ≤ 2000000000) (hi : i ≤ 2000000000) (r : List Bool)
    (h : Ev (fun k => gudgeonref01_add.l0 k a b (out ++ [decide ((b2i x + b2i y + b2i c) % 2 = 1)]) (decide (b2i x + b2i y + b2i c > 1)) ((i + 1 : Nat) : Int)) r) : Ev (fun k => gudgeonref01_add.j2 k a b out c (i : Int) y n) r := by
  subst hn
  refine Ev.step (fun k => ?_) h
  simp only [gudgeonref01_add.j2]
  cases x <;> cases y <;> cases c <;> simp only [b2i, if_true, Bool.false_eq_true, if_false] <;> rw [if_pos (by omega), w64 (x := (i : Int) + 1) (by omega) (by omega)] <;> simp [w01, w11, w21]
theorem badd_l0 (a b : List Bool) (ha : LB a) (hb : LB b) (d : Nat) : ∀ (i : Nat) (out : List Bool) (c : Bool), i + d = max a.length b.length + 2 → out.length = i → bval out + p2 i * b2i c = bval (a.take i) + bval (b.take i) → (i = max a.length b.length + 1 → c = false) →
    i ≤ max a.length b.length + 1 → Ev (fun k => gudgeonref01_add.l0 k a b out c (i : Int)) (bits (bval a + bval b)) := by
  unfold LB at ha hb
  induction d with
  | zero => intro i out c hi; omega
  | succ d ih =>
    intro i out c hi ho hv hend hle
    have hta : bval (a.take (i + 1)) = _ := bval_take_getD a i
    have htb : bval (b.take (i + 1)) = _ := bval_take_getD b i
    have hgo : (a.length > i ∨ b.length > i ∨ c = true) → Ev (fun k => gudgeonref01_add.j1 k a b out c (i : Int) true) (bits (bval a + bval b)) := by
      intro hor
      have hile : i ≤ max a.length b.length := by
        by_cases h : i = max a.length b.length + 1
        · have := hend h
          subst this
          simp at hor
          omega
        · omega
      have hnext := ih (i + 1) (out ++ [decide ((b2i (a.getD i false) + b2i (b.getD i false) + b2i c) % 2 = 1)]) (decide (b2i (a.getD i false) + b2i (b.getD i false) + b2i c > 1)) (by omega) (by simp [ho]) (by
        rw [bval_snoc, ho, p2_succ, hta, htb]
        apply step_badd hv
        cases a.getD i false <;> cases b.getD i false <;> cases c <;> rfl) (by
        intro hmax
        have e1 : i = max a.length b.length := by omega
        have hxa : a.getD i false = false := by rw [List.getD_eq_getElem?_getD, List.getElem?_eq_none (by omega)]; rfl
        have hxb : b.getD i false = false := by rw [List.getD_eq_getElem?_getD, List.getElem?_eq_none (by omega)]; rfl
        rw [hxa, hxb]
        cases c <;> rfl) (by omega)
      refine Ev.step (f := fun k => gudgeonref01_add.j2 k a b out c (i : Int) (b.getD i false) (b2i (a.getD i false))) (fun k => ?_) (badd_j2 a b out c (a.getD i false) (b.getD i false) i _ rfl (by omega) (by omega) _ hnext)
      simp only [gudgeonref01_add.j1, if_true]
      rw [at_ev, at_ev]
      simp only [Option.bind_some]
      cases a.getD i false
      · rw [if_neg (by decide)]; rfl
      · rw [if_pos rfl]; rfl
    by_cases h1 : i < a.length
    · refine Ev.step (fun k => ?_) (hgo (.inl h1))
      simp only [gudgeonref01_add.l0]
      rw [if_pos (by omega)]
    by_cases h2 : i < b.length
    · refine Ev.step (fun k => ?_) (hgo (.inr (.inl h2)))
      simp only [gudgeonref01_add.l0]
      rw [if_neg (by omega), if_pos (by omega)]
    cases c with
    | true =>
      refine Ev.step (fun k => ?_) (hgo (.inr (.inr rfl)))
      simp only [gudgeonref01_add.l0]
      rw [if_neg (by omega), if_neg (by omega)]
    | false =>
      have ht := btrim_ev out (by omega)
      rw [List.take_of_length_le (by omega), List.take_of_length_le (by omega)] at hv
      simp only [b2i, Bool.false_eq_true, if_false, Int.mul_zero, Int.add_zero] at hv
      rw [hv] at ht
      refine Ev.step (f := fun k => gudgeonref01_add.j1 k a b out false (i : Int) false) (fun k => ?_) (Ev.step (fun k => ?_) (Ev.bind (f := fun _ t => some t) ht (Ev.now _)))
      · simp only [gudgeonref01_add.l0]
        rw [if_neg (by omega), if_neg (by omega)]
      · simp only [gudgeonref01_add.j1]
        rw [if_neg (by decide)]
theorem badd_ev (a b : List Bool) (ha : LB a) (hb : LB b) : Ev (fun k => gudgeonref01_add.f k a b) (bits (bval a + bval b)) :=
  Ev.congr (fun k => rfl) (badd_l0 a b ha hb (max a.length b.length + 2) 0 [] false (by omega) rfl (by simp [bval, b2i]) (fun _ => rfl) (by omega))
end Go.Proofs.YthnfmmaolkenkaaDoor.V
/- The reference's differences, products, and numbers by limbs again; its sums of limbs. -/
namespace Go.Proofs.YthnfmmaolkenkaaDoor.V
set_option linter.unusedVariables false
set_option linter.unusedSimpArgs false
open Go.RowKit Go.Proofs.YthnfmmaolkenkaaDoor.PA Go.Proofs.YthnfmmaolkenkaaDoor.H Go.Proofs.YthnfmmaolkenkaaDoorW.PrintWords Go.Proofs.YthnfmmaolkenkaaDoorW.PrintLast Go.Proofs.YthnfmmaolkenkaaDoorW.PrintMore

/-! ### differences -/
/-! ### products -/
theorem bmul_bound {x y : Int} {m n : Nat} (h0 : 0 ≤ x) (h1 : x < p2 m) (g0 : 0 ≤ y) (g1 : y < p2 n) : x * y < p2 (m + n) := by
  rw [p2_add]
  have a1 : x * y ≤ x * p2 n := Int.mul_le_mul_of_nonneg_left (by omega) h0
  have a2 : x * p2 n < p2 m * p2 n := Int.mul_lt_mul_of_pos_right h1 (p2_pos n)
  omega
theorem bmul_l0 (a b : List Bool) (ha : a.length ≤ 400000000) (hb : b.length ≤ 400000000) (d : Nat) : ∀ (out : List Bool), d ≤ a.length → out.length ≤ (a.length - d) + b.length → bval out = bval (a.drop d) * bval b →
    Ev (fun k => gudgeonref01_mul.l0 k a b out ((d : Int) - 1)) (bits (bval a * bval b)) := by
  induction d with
  | zero =>
    intro out hd ho hv
    rw [List.drop_zero] at hv
    have ht := btrim_ev out (by omega)
    rw [hv] at ht
    refine Ev.step (fun k => ?_) (Ev.bind (f := fun _ t => some t) ht (Ev.now _))
    simp only [gudgeonref01_mul.l0]
    rw [if_neg (by omega)]
  | succ d ih =>
    intro out hd ho hv
    have hda : d < a.length := by omega
    have e0 : ((d + 1 : Nat) : Int) - 1 = (d : Int) := by omega
    have hdrop := bval_drop_getD a d
    have hv2 : bval (false :: out) = 2 * bval out := by simp [bval, b2i]
    rw [e0]
    cases hx : a.getD d false with
    | true =>
      rw [hx] at hdrop
      simp only [b2i, if_true] at hdrop
      have hadd := badd_ev (false :: out) b (by unfold LB; simp; omega) (by unfold LB; omega)
      have e1 : bval (false :: out) + bval b = bval (a.drop d) * bval b := by rw [hv2, hv, hdrop]; grind
      rw [e1] at hadd
      have hb1 := bmul_bound (bval_nonneg (a.drop d)) (bval_lt (a.drop d)) (bval_nonneg b) (bval_lt b)
      have h0 := Int.mul_nonneg (bval_nonneg (a.drop d)) (bval_nonneg b)
      have hl := bits_length_le h0 hb1
      rw [List.length_drop] at hl
      refine Ev.step (fun k => ?_) (Ev.bind (f := fun k t => gudgeonref01_mul.l0 k a b t ((d : Int) - 1)) hadd (ih _ (by omega) (by omega) (bval_bits h0)))
      simp only [gudgeonref01_mul.l0]
      rw [if_pos (by omega), Option.bind_some, if_pos (by simp; omega), Option.bind_some, if_pos (by omega), if_pos (by omega), rdOf_D, hx, if_pos rfl, w64 (by omega) (by omega)]
      rfl
    | false =>
      rw [hx] at hdrop
      simp only [b2i, Bool.false_eq_true, if_false, Int.zero_add] at hdrop
      refine Ev.step (fun k => ?_) (ih (false :: out) (by omega) (by simp; omega) (by rw [hv2, hv, hdrop]; grind))
      simp only [gudgeonref01_mul.l0]
      rw [if_pos (by omega), Option.bind_some, if_pos (by simp; omega), Option.bind_some, if_pos (by omega), if_pos (by omega), rdOf_D, hx, if_neg (by decide), w64 (by omega) (by omega)]
      rfl
theorem bmul_ev (a b : List Bool) (ha : a.length ≤ 400000000) (hb : b.length ≤ 400000000) : Ev (fun k => gudgeonref01_mul.f k a b) (bits (bval a * bval b)) := by
  refine Ev.congr (fun k => ?_) (bmul_l0 a b ha hb a.length [] (Nat.le_refl _) (by simp) (by rw [List.drop_eq_nil_of_le (Nat.le_refl _)]; simp [bval]))
  unfold gudgeonref01_mul.f
  rw [w64 (by omega) (by omega)]
/-! ### limbs -/
theorem lim_inj (a : List Int) : ∀ b, Lim a → Lim b → a.length = b.length → val a = val b → a = b := by
  induction a with
  | nil => intro b _ _ hl _; exact (List.eq_nil_of_length_eq_zero (by simpa using hl.symm)).symm
  | cons x a ih =>
    intro b ha hb hl hv
    cases b with
    | nil => simp at hl
    | cons y b =>
      have hx := ha.head
      have hy := hb.head
      simp only [val] at hv
      have e1 : x = y := by omega
      have e2 : val a = val b := by omega
      rw [e1, ih b ha.tail hb.tail (by simpa using hl) e2]
theorem getD_win (l : List Bool) (i j : Nat) (hj : j < 32) : ((l.drop i).take 32).getD j false = l.getD (i + j) false := by
  simp [List.getD_eq_getElem?_getD, List.getElem?_take, hj]
theorem Limbs_l1 (l : List Bool) (hl : l.length ≤ 1000000000) (m : Nat) (hm : m ≤ 100000000) (out : List Int) (ho : out.length ≤ 100000000) (r : List Int) (h : Ev (fun k => gudgeonref01_Limbs.l0 k l (out ++ [bval ((l.drop (32 * m)).take 32)]) ((32 * (m + 1) : Nat) : Int)) r) (j : Nat) (hj : j ≤ 32) :
    Ev (fun k => gudgeonref01_Limbs.l1 k l out ((32 * m : Nat) : Int) (bval (((l.drop (32 * m)).take 32).drop j)) (((32 * m + j : Nat) : Int) - 1)) r := by
  induction j with
  | zero =>
    rw [List.drop_zero]
    refine Ev.step (fun k => ?_) h
    simp only [gudgeonref01_Limbs.l1]
    rw [if_neg (by omega), if_pos (by omega), w64 (by omega) (by omega), show ((32 * m : Nat) : Int) + 32 = ((32 * (m + 1) : Nat) : Int) by omega]
  | succ j ih =>
    have hd := bval_drop_getD ((l.drop (32 * m)).take 32) j
    rw [getD_win l (32 * m) j (by omega)] at hd
    have h0 := bval_nonneg (((l.drop (32 * m)).take 32).drop (j + 1))
    have h1 : bval (((l.drop (32 * m)).take 32).drop (j + 1)) < p2 31 := by
      have := bval_lt (((l.drop (32 * m)).take 32).drop (j + 1))
      have h2 := p2_le (show (((l.drop (32 * m)).take 32).drop (j + 1)).length ≤ 31 by rw [List.length_drop, List.length_take]; omega)
      omega
    have e31 : p2 31 = 2147483648 := rfl
    have e0 : ((32 * m + (j + 1) : Nat) : Int) - 1 = ((32 * m + j : Nat) : Int) := by omega
    rw [e0]
    refine Ev.step (fun k => ?_) (ih (by omega))
    simp only [gudgeonref01_Limbs.l1]
    by_cases hlt : 32 * m + j < l.length
    · rw [if_pos (by omega), if_pos (by omega), if_pos (by omega), rdOf_D]
      cases hb : l.getD (32 * m + j) false with
      | true =>
        rw [hb] at hd
        simp only [b2i, if_true] at hd
        rw [if_pos rfl, w64 (by omega) (by omega), hd]
        congr 1
        omega
      | false =>
        rw [hb] at hd
        simp only [b2i, Bool.false_eq_true, if_false] at hd
        rw [if_neg (by decide), w64 (by omega) (by omega), hd]
        congr 1
        omega
    · have hb : l.getD (32 * m + j) false = false := by rw [List.getD_eq_getElem?_getD, List.getElem?_eq_none (by omega)]; rfl
      rw [hb] at hd
      simp only [b2i, Bool.false_eq_true, if_false] at hd
      rw [if_pos (by omega), if_neg (by omega), w64 (by omega) (by omega), hd]
      congr 1
      omega
theorem Limbs_l0 (x : Int) (h0 : 0 ≤ x) (hl : (bits x).length ≤ 1000000000) (d : Nat) : ∀ (m : Nat) (out : List Int), d + 32 * m = (bits x).length + 32 ∨ ((bits x).length ≤ 32 * m ∧ 32 * m < (bits x).length + 32) → d ≤ (bits x).length + 32 → 32 * m < (bits x).length + 32 → out.length = m → Lim out → val out = bval ((bits x).take (32 * m)) → Ev (fun k => gudgeonref01_Limbs.l0 k (bits x) out ((32 * m : Nat) : Int)) (dig x) := by
  induction d using Nat.strongRecOn with
  | _ d ih =>
    intro m out hd hd2 hm ho hL hv
    by_cases hend : (bits x).length ≤ 32 * m
    · rw [List.take_of_length_le hend, bval_bits h0] at hv
      have e : out = dig x := by
        refine lim_inj _ _ hL (dig_lim _) ?_ (by rw [hv, val_dig h0])
        have hlt : x < pw m := by
          rw [pw_p2]
          exact lt_of_bits_length h0 hend
        have h1 := dig_length_le h0 hlt
        by_cases h2 : m ≤ (dig x).length
        · omega
        · have h3 : x < pw (m - 1) := lt_of_dig_length h0 (by omega)
          rw [pw_p2] at h3
          have h4 := bits_length_le h0 h3
          omega
      refine Ev.step (f := fun _ => some _) (fun k => ?_) (Ev.now _)
      simp only [gudgeonref01_Limbs.l0]
      rw [if_neg (by omega), e]
    · have hwl : ((bits x).take (32 * m)).length = 32 * m := by rw [List.length_take]; omega
      have hW : bval (((bits x).drop (32 * m)).take 32) < 4294967296 := by
        have h1 := bval_lt (((bits x).drop (32 * m)).take 32)
        have h2 := p2_le (show (((bits x).drop (32 * m)).take 32).length ≤ 32 by rw [List.length_take]; omega)
        have e : p2 32 = 4294967296 := rfl
        omega
      have hW0 := bval_nonneg (((bits x).drop (32 * m)).take 32)
      have hnext := ih (d - 32) (by omega) (m + 1) (out ++ [bval (((bits x).drop (32 * m)).take 32)]) (by omega) (by omega) (by omega) (by simp [ho]) (hL.append (Lim.cons hW0 hW Lim.nil)) (by
        rw [val_append, ho, hv, show val [bval (((bits x).drop (32 * m)).take 32)] = bval (((bits x).drop (32 * m)).take 32) by simp [val], show 32 * (m + 1) = 32 * m + 32 by omega, List.take_add, bval_append, hwl, pw_p2])
      have h1 := Limbs_l1 (bits x) hl m (by omega) out (by omega) _ hnext 32 (Nat.le_refl _)
      rw [List.drop_eq_nil_of_le (by rw [List.length_take]; omega)] at h1
      refine Ev.step (fun k => ?_) h1
      simp only [gudgeonref01_Limbs.l0]
      rw [if_pos (by omega), w64 (by omega) (by omega), show ((32 * m : Nat) : Int) + 31 = ((32 * m + 32 : Nat) : Int) - 1 by omega]
      rfl
theorem bits_bits (x : Int) (h0 : 0 ≤ x) : bits (bval (bits x)) = bits x := by rw [bval_bits h0]
theorem Limbs_ev (x : Int) (h0 : 0 ≤ x) (hl : (bits x).length ≤ 1000000000) : Ev (fun k => gudgeonref01_Limbs.f k (bits x)) (dig x) := by
  have ht := btrim_ev (bits x) (by omega)
  rw [bits_bits x h0] at ht
  have := Limbs_l0 x h0 hl ((bits x).length + 32) 0 [] (by omega) (by omega) (by omega) rfl Lim.nil (by simp [val, bval])
  exact Ev.congr (fun k => rfl) (Ev.bind ht this)
/-! ### the reference's functions of limbs -/
def SZ (l : List Int) : Prop := l.length ≤ 10000
theorem bits_len_of (l : List Int) (hL : Lim l) (hs : SZ l) : (bits (val l)).length ≤ 320000 := by
  have h := val_lt hL
  rw [pw_p2] at h
  have := bits_length_le (val_nonneg hL) h
  unfold SZ at hs
  omega
theorem refNorm_ev (l : List Int) (hL : Lim l) (hs : SZ l) : Ev (fun k => gudgeonref01_Norm.f k l) (dig (val l)) := by
  have h1 := bits_len_of l hL hs
  have hs' := hs
  unfold SZ at hs'
  exact Ev.congr (fun k => rfl) (Ev.bind (Bits_ev l hL (by omega)) (Ev.bind (f := fun _ t => some t) (Limbs_ev _ (val_nonneg hL) (by omega)) (Ev.now _)))
end Go.Proofs.YthnfmmaolkenkaaDoor.V
/- Numbers as small ones, of nat and of the reference. -/
namespace Go.Proofs.YthnfmmaolkenkaaDoor.V
set_option linter.unusedVariables false
set_option linter.unusedSimpArgs false
open Go.RowKit Go.Proofs.YthnfmmaolkenkaaDoor.PA Go.Proofs.YthnfmmaolkenkaaDoor.H Go.Proofs.YthnfmmaolkenkaaDoorW.PrintWords Go.Proofs.YthnfmmaolkenkaaDoorW.PrintLast Go.Proofs.YthnfmmaolkenkaaDoorW.PrintMore

theorem refOf_ev (n : Int) (h0 : 0 ≤ n) (h1 : n < 18446744073709551616) : Ev (fun k => gudgeonref01_Of.f k n) (dig n) := by
  have e1 : (Int.tmod n 4294967296) % 4294967296 = n % 4294967296 := by rw [Int.tmod_eq_emod_of_nonneg h0]; omega
  have e2 : (IntKind.u64.wrap (Int.tdiv n 4294967296)) % 4294967296 = n / 4294967296 := by
    rw [Int.tdiv_eq_ediv_of_nonneg h0, u64 (by omega) (by omega)]; omega
  have hL : Lim [n % 4294967296, n / 4294967296] := Lim.cons (by omega) (by omega) (Lim.cons (by omega) (by omega) Lim.nil)
  have := refNorm_ev _ hL (by unfold SZ; simp)
  have ev : val [n % 4294967296, n / 4294967296] = n := by simp only [val]; omega
  rw [ev] at this
  refine Ev.congr (fun k => ?_) (Ev.bind (f := fun _ t => some t) this (Ev.now _))
  unfold gudgeonref01_Of.f
  rw [e1, e2]
/-! ### as a small number -/
def intR (v : Int) : Int × Bool := if v < 4611686018427387904 then (v, true) else (0, false)
theorem refInt_l0 (l : List Bool) (hl : l.length ≤ 62) (d : Nat) (hd : d ≤ l.length) : Ev (fun k => gudgeonref01_Int.l0 k l (bval (l.drop d)) ((d : Int) - 1)) (bval l, true) := by
  induction d with
  | zero =>
    refine Ev.step (f := fun _ => some _) (fun k => ?_) (Ev.now _)
    simp only [gudgeonref01_Int.l0]
    rw [if_neg (by omega), List.drop_zero]
  | succ d ih =>
    have hdrop := bval_drop_getD l d
    have h0 := bval_nonneg (l.drop (d + 1))
    have h1 := bval_lt (l.drop (d + 1))
    have h2 := p2_le (show (l.drop (d + 1)).length ≤ 61 by rw [List.length_drop]; omega)
    have e : p2 61 = 2305843009213693952 := rfl
    rw [show ((d + 1 : Nat) : Int) - 1 = (d : Int) by omega]
    refine Ev.step (fun k => ?_) (ih (by omega))
    simp only [gudgeonref01_Int.l0]
    rw [if_pos (by omega), if_pos (by omega), if_pos (by omega), rdOf_D]
    cases hb : l.getD d false with
    | true =>
      rw [hb] at hdrop
      simp only [b2i, if_true] at hdrop
      rw [if_pos rfl, w64 (x := (d : Int) - 1) (by omega) (by omega), w64 (x := bval (l.drop (d + 1)) * 2) (by omega) (by omega), w64 (by omega) (by omega), hdrop]
      congr 1
      omega
    | false =>
      rw [hb] at hdrop
      simp only [b2i, Bool.false_eq_true, if_false] at hdrop
      rw [if_neg (by decide), w64 (x := (d : Int) - 1) (by omega) (by omega), w64 (x := bval (l.drop (d + 1)) * 2) (by omega) (by omega), hdrop]
      congr 1
      omega
theorem refInt_ev (l : List Int) (hL : Lim l) (hs : SZ l) : Ev (fun k => gudgeonref01_Int.f k l) (intR (val l)) := by
  have hv := val_nonneg hL
  have hs' := hs
  unfold SZ at hs'
  have h62 : p2 62 = 4611686018427387904 := rfl
  have hbl := bits_len_of l hL hs
  refine Ev.congr (fun k => rfl) (Ev.bind (Bits_ev l hL (by omega)) ?_)
  unfold intR
  by_cases hlt : val l < 4611686018427387904
  · have hl : (bits (val l)).length ≤ 62 := bits_length_le hv (by omega)
    have := refInt_l0 (bits (val l)) hl _ (Nat.le_refl _)
    rw [List.drop_eq_nil_of_le (Nat.le_refl _), bval_bits hv] at this
    rw [if_pos hlt]
    refine Ev.congr (fun k => ?_) this
    rw [if_neg (by omega), w64 (by omega) (by omega)]
    rfl
  · have hl : ¬ (bits (val l)).length ≤ 62 := fun h => hlt (by have := lt_of_bits_length hv h; omega)
    rw [if_neg hlt]
    refine Ev.congr (f := fun _ => some _) (fun k => ?_) (Ev.now _)
    rw [if_pos (by omega)]
theorem or_zero_u64 {x : Int} (h0 : 0 ≤ x) (h1 : x < 18446744073709551616) : Go.bits .or .u64 0 x = x := by
  obtain ⟨a, rfl⟩ := Int.eq_ofNat_of_zero_le h0
  have := (bits_nat .u64 64 (by decide) wraps_u64 0 a (by decide) (by omega)).2
  simpa using this
theorem nInt_ev (l : List Int) (hL : Lim l) (hs : SZ l) : Ev (fun k => nat_Int.f k l) (intR (val l)) := by
  have hv := val_nonneg hL
  have hs' := hs
  unfold SZ at hs'
  have hp2 : pw 2 = 18446744073709551616 := rfl
  have hfin : ∀ n : Int, 0 ≤ n → n < 18446744073709551616 → (if n ≥ 4611686018427387904 then (some ((0 : Int), false)) else (some (wrap64 (n), true))) = some (intR n) := by
    intro n n0 n1
    unfold intR
    by_cases h : n < 4611686018427387904
    · rw [if_neg (by omega), if_pos h, w64 (by omega) (by omega)]
    · rw [if_pos (by omega), if_neg h]
  refine Ev.congr (fun k => by
    unfold nat_Int.f
    rw [norm_ev l hL (by omega), Option.bind_some]) ?_
  have hd := val_dig hv
  have hl := dig_lim (val l)
  generalize hn : dig (val l) = t at *
  match t, hl with
  | [], _ =>
    refine Ev.congr (fun k => by rw [if_neg (by simp)]) (Ev.step (f := fun _ => some _) (fun k => ?_) (Ev.now _))
    simp only [val] at hd
    simp only [nat_Int.l0]
    rw [if_neg (by simp), hfin 0 (by omega) (by omega), hd]
  | [a], hl =>
    have ga := hl.head
    simp only [val] at hd
    have e1 : Go.bits .or .u64 0 (shl .u64 (IntKind.u64.wrap a) 0) = a := by
      rw [u64 ga.1 (by omega)]
      unfold shl
      simp only [Int.toNat_zero, Nat.zero_min, Int.pow_zero, Int.mul_one]
      rw [u64 ga.1 (by omega), or_zero_u64 ga.1 (by omega)]
    refine Ev.congr (fun k => by rw [if_neg (by simp)]) (Ev.step (f := fun k => nat_Int.l0 k a [a] 1 1) (fun k => ?_) (Ev.step (f := fun _ => some _) (fun k => ?_) (Ev.now _)))
    · simp only [nat_Int.l0]
      rw [if_pos (by simp), if_pos (by omega), if_pos (by simp), show (32 : Int) * 0 = 0 from rfl, wm0, if_pos (by omega), show rd [a] 0 = a from rfl, e1, show (0 : Int) + 1 = 1 from rfl, w01]
      rfl
    · simp only [nat_Int.l0]
      rw [if_neg (by omega), hfin a ga.1 (by omega)]
      congr 2
      omega
  | [a, b], hl =>
    have ga := hl.head
    have gb := hl.tail.head
    simp only [val] at hd
    have e1 : Go.bits .or .u64 0 (shl .u64 (IntKind.u64.wrap a) 0) = a := by
      rw [u64 ga.1 (by omega)]
      unfold shl
      simp only [Int.toNat_zero, Nat.zero_min, Int.pow_zero, Int.mul_one]
      rw [u64 ga.1 (by omega), or_zero_u64 ga.1 (by omega)]
    have e2 : Go.bits .or .u64 a (shl .u64 (IntKind.u64.wrap b) 32) = b * 4294967296 + a := by
      rw [u64 gb.1 (by omega)]
      unfold shl
      rw [show min (Int.toNat 32) (IntKind.bits .u64) = 32 from rfl, show (2 : Int) ^ 32 = 4294967296 from rfl, u64 (x := b * 4294967296) (by omega) (by omega), or_comm_, or_join gb ga]
    refine Ev.congr (fun k => by rw [if_neg (by simp)]) (Ev.step (f := fun k => nat_Int.l0 k a [a, b] 2 1) (fun k => ?_) (Ev.step (f := fun k => nat_Int.l0 k (b * 4294967296 + a) [a, b] 2 2) (fun k => ?_) (Ev.step (f := fun _ => some _) (fun k => ?_) (Ev.now _))))
    · simp only [nat_Int.l0]
      rw [if_pos (by simp), if_pos (by omega), if_pos (by simp), show (32 : Int) * 0 = 0 from rfl, wm0, if_pos (by omega), show rd [a, b] 0 = a from rfl, e1, show (0 : Int) + 1 = 1 from rfl, w01]
      rfl
    · simp only [nat_Int.l0]
      rw [if_pos (by omega), if_pos (by omega), if_pos (by simp), show (32 : Int) * 1 = 32 from rfl, w64 (x := 32) (by omega) (by omega), if_pos (by omega), show rd [a, b] 1 = b from rfl, e2, show (1 : Int) + 1 = 2 from rfl, w11]
    · simp only [nat_Int.l0]
      rw [if_neg (by omega), hfin _ (by omega) (by omega)]
      congr 2
      omega
  | a :: b :: c :: t, hl =>
    have hnot : ¬ val l < 4611686018427387904 := by
      intro h
      have := dig_length_le (k := 2) hv (by omega)
      rw [hn] at this
      simp at this
    refine Ev.congr (f := fun _ => some _) (fun k => ?_) (Ev.now _)
    unfold intR
    rw [if_pos (by simp; omega), if_neg hnot]
end Go.Proofs.YthnfmmaolkenkaaDoor.V
/- What whole's texts and small numbers are; the chapter's examples. -/
namespace Go.Proofs.YthnfmmaolkenkaaDoor.S
set_option linter.unusedVariables false
set_option linter.unusedSimpArgs false
open Go.RowKit Go.Proofs.YthnfmmaolkenkaaDoor.V Go.Proofs.YthnfmmaolkenkaaDoor.PA Go.Proofs.YthnfmmaolkenkaaDoor.H Go.Proofs.YthnfmmaolkenkaaDoorW.PrintWords Go.Proofs.YthnfmmaolkenkaaDoorW.PrintLast Go.Proofs.YthnfmmaolkenkaaDoorW.PrintMore

/-- A number's digits, the sign ahead. -/
def wtext (z : Int) : List UInt8 := if z < 0 then 45 :: textL (az z).toNat else textL (az z).toNat
theorem textL_len {m : Nat} {z : Int} (h0 : 0 ≤ z) (h : B m z) (hm : m ≤ 1000) : (textL z.toNat).length ≤ 10 * m + 10 := by
 have hz : az z = z := by unfold az; rw [if_neg (by omega)]
 unfold B at h; rw [hz] at h
 have h1 := lt_of_dig_length h0 h
 unfold textL
 split
 ·rw [List.length_singleton]; omega
 ·have : z.toNat < 10 ^ (10 * m) := by
   have e : (4294967296 : Nat) ^ m ≤ 10 ^ (10 * m) := by
    rw [Nat.pow_mul]; exact Nat.pow_le_pow_left (by decide) m
   have h2 : (z.toNat : Int) < ((4294967296 ^ m : Nat) : Int) := by
    have : pw m = ((4294967296 ^ m : Nat) : Int) := by unfold pw; exact (Int.natCast_pow 4294967296 m).symm
    omega
   omega
  have := decL_length z.toNat (10 * m) this
  omega
theorem wText_ev (b : Bool) (l : List Int) (h : Lim l) (hn : l.length ≤ 1000) : Ev (fun k => whole_Text.f k b l) (⟨(wtext (wv b l)).toArray⟩ : ByteArray) := by
 have bl := B_in b h
 have tl := textL_len (m := l.length) (z := az (wv b l)) (az_nonneg _) (by
  have : az (az (wv b l)) = az (wv b l) := by have := az_nonneg (wv b l); rw [show az (az (wv b l)) = if az (wv b l) < 0 then -az (wv b l) else az (wv b l) from rfl, if_neg (by omega)]
  unfold B at *; rw [this]; exact bl) hn
 refine Ev.congr (fun k => rfl) (evC (wNorm_ev b l h (by omega)) ?_)
 generalize wv b l = z at *
 have T := text_ev (W z).2 (W_lim z) (by have := bl.len; omega)
 rw [val_W] at T
 unfold wtext
 by_cases h0 : z < 0
 ·refine evP (decide_eq_true h0) (Ev.bind T (evP ?_ (evR ?_)))
  ·show 1 + (textL (az z).toNat).toArray.size ≤ 9223372036854775807
   rw [List.size_toArray]; omega
  ·rw [if_pos h0]; rfl
 ·refine evN (by rw [show (W z).1 = false from decide_eq_false h0]; decide) (Ev.bind T (evR ?_))
  rw [if_neg h0]
theorem B1 {z : Int} (h : az z < 4294967296) : B 1 z := by
 unfold B; exact dig_length_le (az_nonneg z) (by rw [show pw 1 = 4294967296 from rfl]; omega)
theorem wText_W (z : Int) (m : Nat) (hm : m ≤ 1000) (h : B m z) : Ev (fun k => whole_Text.f k (W z).1 (W z).2) (⟨(wtext z).toArray⟩ : ByteArray) := by
 have := wText_ev (W z).1 (W z).2 (W_lim z) (by have := h.len; omega)
 rw [wv_W] at this; exact this
theorem wDivMod_W (x y : Int) (h0 : y ≠ 0) (hx : B 1000 x) (hy : B 1000 y) : Ev (fun k => whole_DivMod.f k (W x).1 (W x).2 (W y).1 (W y).2) ((W (x / y)).1, (W (x / y)).2, (W (x % y)).1, (W (x % y)).2, 0) := by
 have := wDivMod_ev (W x).1 (W y).1 (W x).2 (W y).2 (W_lim _) (W_lim _) (by have := hx.len; omega) (by have := hy.len; omega)
 rw [wv_W, wv_W, if_neg h0] at this; exact this
theorem wFloor_W (x y : Int) (h0 : y ≠ 0) (hx : B 1000 x) (hy : B 1000 y) : Ev (fun k => whole_Floor.f k (W x).1 (W x).2 (W y).1 (W y).2) ((W (fl x y)).1, (W (fl x y)).2, 0) := by
 have := wFloor_ev (W x).1 (W y).1 (W x).2 (W y).2 (W_lim _) (W_lim _) (by have := hx.len; omega) (by have := hy.len; omega)
 rw [wv_W, wv_W, if_neg h0] at this; exact this
theorem awake_ev : Ev (fun k => gudgeonlaw02_awake.f k) true := by
 have b7 : B 1 (-7) := B1 (by decide)
 have b2 : B 1 2 := B1 (by decide)
 have bm2 : B 1 (-2) := B1 (by decide)
 have bp7 : B 1 7 := B1 (by decide)
 have D1 := wDivMod_W (-7) 2 (by decide) (b7.mono (by omega)) (b2.mono (by omega))
 have D2 := wDivMod_W (-7) (-2) (by decide) (b7.mono (by omega)) (bm2.mono (by omega))
 have F := wFloor_W 7 (-2) (by decide) (bp7.mono (by omega)) (bm2.mono (by omega))
 have e1 : (-7 : Int) / 2 = -4 := by decide
 have e2 : (-7 : Int) % 2 = 1 := by decide
 have e3 : (-7 : Int) / (-2) = 4 := by decide
 have e4 : (-7 : Int) % (-2) = 1 := by decide
 have e5 : fl 7 (-2) = -4 := by decide
 rw [e1, e2] at D1
 rw [e3, e4] at D2
 rw [e5] at F
 have T1 := wText_W (-4) 1 (by omega) (B1 (by decide))
 have T2 := wText_W 1 1 (by omega) (B1 (by decide))
 have T3 := wText_W 4 1 (by omega) (B1 (by decide))
 have x1 : (⟨(wtext (-4)).toArray⟩ : ByteArray).toList = [45, 52] := by rw [Lib.toList_data]; decide +kernel
 have x2 : (⟨(wtext 1).toArray⟩ : ByteArray).toList = [49] := by rw [Lib.toList_data]; decide +kernel
 have x3 : (⟨(wtext 4).toArray⟩ : ByteArray).toList = [52] := by rw [Lib.toList_data]; decide +kernel
 refine Ev.congr (fun k => rfl) (evC (wOf_ev (-7) (by decide) (by decide)) (evC (wOf_ev 2 (by decide) (by decide)) (Ev.bind D1 (evC (wOf_ev (-7) (by decide) (by decide)) (evC (wOf_ev (-2) (by decide) (by decide)) (Ev.bind D2 (evC (wOf_ev 7 (by decide) (by decide)) (evC (wOf_ev (-2) (by decide) (by decide)) (Ev.bind F ?_)))))))))
 refine evP rfl (evP rfl (evP rfl ?_))
 refine Ev.bind T1 (evP x1 (Ev.bind T2 (evP x2 (Ev.bind T3 (evP x3 (Ev.bind T2 (evP x2 (Ev.bind T1 (evR ?_)))))))))
 rw [x1]; rfl
theorem wSame_ev (x : Int) (n : Nat) (hn : n ≤ 100000) (h : B n x) (r : Bool × List Int) (hr : r = W x) : Ev (fun k => gudgeonref02_Same.f k (W x).1 (W x).2 r.1 r.2) true := by
 subst hr
 refine Ev.congr (fun k => rfl) (Ev.bind (same_self _ _ rfl (by have := h.len; omega)) (evP rfl (evR ?_)))
 simp
def cutp : List UInt8 → List UInt8 × Bool
 | [] => ([], false)
 | c :: r => if c = 45 then (r, true) else (c :: r, false)
/-- A number's text read. -/
def wparse (s : List UInt8) : Bool × List Int × Int :=
 if (parseR (cutp s).1).2 = 0 then (if (cutp s).2 = true ∧ (parseR (cutp s).1).1.length = 0 then (false, [], 8) else ((W (wv (cutp s).2 (parseR (cutp s).1).1)).1, (W (wv (cutp s).2 (parseR (cutp s).1).1)).2, 0)) else (false, [], 8)
theorem parseR_lim (l : List UInt8) : Lim (parseR l).1 := by
 by_cases h : (parseR l).2 = 0
 ·obtain ⟨_, h2, _⟩ := text_parse l h
  rw [h2]; exact dig_lim _
 ·rw [parse_err l h]; exact Lim.nil
theorem ba_toList (l : List UInt8) : (⟨l.toArray⟩ : ByteArray).toList = l := by rw [Lib.toList_data]
theorem cutp_ev (s : List UInt8) (hs : s.length ≤ 1000000) : strings_CutPrefix.f (⟨s.toArray⟩ : ByteArray) (⟨#[45]⟩ : ByteArray) = some ((⟨(cutp s).1.toArray⟩ : ByteArray), (cutp s).2) := by
 have sz : ∀ l : List UInt8, (⟨l.toArray⟩ : ByteArray).size = l.length := fun _ => rfl
 have one : (((⟨#[45]⟩ : ByteArray).size : Nat) : Int) = 1 := rfl
 have o1 : (⟨#[45]⟩ : ByteArray).toList = [45] := ba_toList [45]
 unfold strings_CutPrefix.f stringslite_CutPrefix.f stringslite_HasPrefix.f
 rw [sz, one]
 cases s with
 | nil => rw [if_neg (by decide), Option.bind_some, if_neg (by decide), Option.bind_some]; rfl
 | cons c r =>
  have e0 : (⟨(c :: r).toArray⟩ : ByteArray).extract 0 ((1 : Int) : Int).toNat = ⟨[c].toArray⟩ := by
   apply ByteArray.ext; apply Array.toList_inj.1; rw [ByteArray.data_extract]; simp
  have e1 : (⟨(c :: r).toArray⟩ : ByteArray).extract ((1 : Int) : Int).toNat (c :: r).length = ⟨r.toArray⟩ := by
   apply ByteArray.ext; apply Array.toList_inj.1; rw [ByteArray.data_extract]; simp
  have hl : (1 : Int) ≤ ((c :: r).length : Int) := by simp only [List.length_cons]; omega
  rw [if_pos (show ((c :: r).length : Int) ≥ 1 from hl), if_pos (show (0 : Int) ≤ 1 by decide), if_pos hl, e0, ba_toList, o1, Option.bind_some]
  by_cases h : c = 45
  ·have ec : cutp (c :: r) = (r, true) := by simp only [cutp]; rw [if_pos h]
   have : ([c] == ([45] : List UInt8)) = true := by simpa using h
   rw [this, if_pos (by rfl), if_pos (show (0 : Int) ≤ 1 by decide), if_pos hl, e1, Option.bind_some, ec]
  ·have ec : cutp (c :: r) = (c :: r, false) := by simp only [cutp]; rw [if_neg h]
   have : ([c] == ([45] : List UInt8)) = false := by simpa using h
   rw [this, if_neg Bool.false_ne_true, Option.bind_some, ec]
theorem decL_lt : ∀ n : Nat, n < 10 ^ (decL n).length := by
 intro n
 induction n using Nat.strongRecOn with
 | ind n ih =>
  by_cases h : n = 0
  ·subst h; rw [decL_zero]; decide
  ·rw [decL_pos h, List.length_append, List.length_singleton, Nat.pow_succ]
   have := ih (n / 10) (by omega)
   omega
theorem parseR_len (l : List UInt8) : (parseR l).1.length ≤ l.length := by
 by_cases h : (parseR l).2 = 0
 ·obtain ⟨h1, h2, h3⟩ := text_parse l h
  rw [h2]
  refine dig_length_le h3 ?_
  have hn : (decV 0 l).toNat < 10 ^ l.length := by
   unfold textL at h1
   split at h1
   ·rename_i hz
    rw [hz]; exact Nat.pow_pos (by decide)
   ·have := decL_lt (decV 0 l).toNat
    rw [h1] at this; exact this
  have e : 10 ^ l.length ≤ 4294967296 ^ l.length := Nat.pow_le_pow_left (by decide) _
  have : pw l.length = ((4294967296 ^ l.length : Nat) : Int) := by unfold pw; exact (Int.natCast_pow 4294967296 l.length).symm
  omega
 ·rw [parse_err l h]; simp
theorem cutp_len (s : List UInt8) : (cutp s).1.length ≤ s.length := by
 cases s with
 | nil => exact Nat.le_refl _
 | cons c r => simp only [cutp]; split <;> simp
theorem wParse_ev (s : ByteArray) (hs : s.size ≤ 1000000) : Ev (fun k => whole_Parse.f k s) (wparse s.data.toList) := by
 obtain ⟨⟨s⟩⟩ := s
 have hs : s.length ≤ 1000000 := hs
 have hc := cutp_len s
 have hp := parseR_len (cutp s).1
 have P := parse_ev (⟨(cutp s).1.toArray⟩ : ByteArray) (by show (cutp s).1.length ≤ _; omega)
 show Ev (fun k => whole_Parse.f k (⟨s.toArray⟩ : ByteArray)) (wparse s)
 refine Ev.congr (fun k => rfl) (evC (cutp_ev s hs) (Ev.bind P ?_))
 show Ev (fun k => if (parseR (cutp s).1).2 = 0 then (if (cutp s).2 = true then (if ((parseR (cutp s).1).1.length : Int) = 0 then some (false, ([] : List Int), (8 : Int)) else (whole_made.f (cutp s).2 (parseR (cutp s).1).1).bind fun bt => some (bt.1, bt.2, (0 : Int))) else (whole_made.f (cutp s).2 (parseR (cutp s).1).1).bind fun bt => some (bt.1, bt.2, (0 : Int))) else some (false, ([] : List Int), (8 : Int))) _
 have M := made_ev (cutp s).2 (parseR (cutp s).1).1 (parseR_lim _) (by omega)
 unfold wparse
 by_cases h : (parseR (cutp s).1).2 = 0
 ·refine evP h ?_
  rw [if_pos h]
  by_cases h1 : (cutp s).2 = true
  ·refine evP h1 ?_
   by_cases h2 : (parseR (cutp s).1).1.length = 0
   ·refine evP (by omega) (evR ?_)
    rw [if_pos ⟨h1, h2⟩]
   ·refine evN (by omega) (evC M (evR ?_))
    rw [if_neg (fun z => h2 z.2)]
  ·refine evN h1 (evC M (evR ?_))
   rw [if_neg (fun z => h1 z.1)]
 ·refine evN h (evR ?_)
  rw [if_neg h]
/-- A number as a small one. -/
def wint (b : Bool) (v : Int) : Int × Bool := if b = true then (wrap64 (-(intR v).1), (intR v).2) else intR v
theorem wInt_ev (b : Bool) (l : List Int) (hL : Lim l) (hs : SZ l) : Ev (fun k => whole_Int.f k b l) (wint b (val l)) := by
 refine Ev.congr (fun k => rfl) (Ev.bind (nInt_ev l hL hs) ?_)
 unfold wint
 cases b with
 | true => exact evP rfl (evR (by rw [if_pos rfl]))
 | false => exact evN (by decide) (evR (by rw [if_neg (by decide)]))
end Go.Proofs.YthnfmmaolkenkaaDoor.S
/- What the reference's functions of whole are, as numbers; the law WholeSums, in plain Lean. -/
namespace Go.Proofs.YthnfmmaolkenkaaDoor.S
set_option linter.unusedVariables false
set_option linter.unusedSimpArgs false
open Go.RowKit Go.Proofs.YthnfmmaolkenkaaDoor.V Go.Proofs.YthnfmmaolkenkaaDoor.PA Go.Proofs.YthnfmmaolkenkaaDoor.H Go.Proofs.YthnfmmaolkenkaaDoorW.PrintWords Go.Proofs.YthnfmmaolkenkaaDoorW.PrintLast Go.Proofs.YthnfmmaolkenkaaDoorW.PrintMore

theorem rNorm_ev (b : Bool) (l : List Int) (h : Lim l) (hs : SZ l) : Ev (fun k => gudgeonref02_Norm.f k b l) (W (wv b l)) := by
 have v := val_nonneg h
 refine Ev.congr (fun k => rfl) (Ev.bind (refNorm_ev l h hs) ?_)
 unfold W
 rw [az_wv b h]
 cases b with
 | true =>
  refine evP rfl (evR ?_)
  congr 1
  refine decide_eq_decide.2 ?_
  have := dig_eq_nil v
  unfold wv; rw [if_pos rfl]
  constructor
  ·intro z
   have hne : ¬ val l = 0 := fun y => by rw [this.2 y] at z; simp at z
   omega
  ·intro z
   have hne : dig (val l) ≠ [] := fun y => by have := this.1 y; omega
   have := List.length_pos_iff.2 hne
   omega
 | false =>
  refine evN (by decide) (evR ?_)
  congr 1
  unfold wv; rw [if_neg (by decide)]
  exact (decide_eq_false (by omega)).symm
theorem rSign_ev (b : Bool) (l : List Int) (h : Lim l) (hs : SZ l) : Ev (fun k => gudgeonref02_Sign.f k b l) (sg (wv b l)) := by
 refine Ev.congr (fun k => rfl) (Ev.bind (rNorm_ev b l h hs) ?_)
 generalize wv b l = z
 have d := dig_az z
 by_cases h0 : z = 0
 ·refine evP (show ((dig (az z)).length : Int) = 0 by have : ¬ ((dig (az z)).length : Int) > 0 := fun y => d.1 y h0; omega) (evR ?_)
  subst h0; rfl
 ·refine evN (show ¬ ((dig (az z)).length : Int) = 0 by have := d.2 h0; omega) ?_
  by_cases h1 : z < 0
  ·refine evP (decide_eq_true h1) (evR ?_)
   unfold sg; rw [if_pos h1]
  ·refine evN (by rw [show (W z).1 = false from decide_eq_false h1]; decide) (evR ?_)
   unfold sg; rw [if_neg h1, if_pos (by omega)]
end Go.Proofs.YthnfmmaolkenkaaDoor.S
/- The law WholeTextBack, in plain Lean. -/
namespace Go.Proofs.YthnfmmaolkenkaaDoor.S
set_option linter.unusedVariables false
set_option linter.unusedSimpArgs false
open Go.RowKit Go.Proofs.YthnfmmaolkenkaaDoor.V Go.Proofs.YthnfmmaolkenkaaDoor.PA Go.Proofs.YthnfmmaolkenkaaDoor.H Go.Proofs.YthnfmmaolkenkaaDoorW.PrintWords Go.Proofs.YthnfmmaolkenkaaDoorW.PrintLast Go.Proofs.YthnfmmaolkenkaaDoorW.PrintMore

/-- What is read is what is written. -/
theorem wtext_wparse (s : List UInt8) (h : (wparse s).2.2 = 0) : ∃ z, wparse s = ((W z).1, (W z).2, 0) ∧ wtext z = s ∧ B s.length z := by
 unfold wparse at h ⊢
 have hl := parseR_len (cutp s).1
 by_cases h1 : (parseR (cutp s).1).2 = 0
 ·rw [if_pos h1] at h ⊢
  by_cases h2 : (cutp s).2 = true ∧ (parseR (cutp s).1).1.length = 0
  ·rw [if_pos h2] at h; exact absurd h (show ¬ (8 : Int) = 0 by decide)
  ·rw [if_neg h2]
   obtain ⟨t1, t2, t3⟩ := text_parse (cutp s).1 h1
   have hc := cutp_len s
   refine ⟨_, rfl, ?_, (B_in _ (parseR_lim _)).mono (Nat.le_trans hl hc)⟩
   have hv : val (parseR (cutp s).1).1 = decV 0 (cutp s).1 := by rw [t2]; exact val_dig t3
   unfold wtext
   rw [az_wv _ (parseR_lim _), hv, t1]
   cases s with
   | nil =>
    have e : cutp [] = ([], false) := rfl
    rw [e] at t1 ⊢
    exact absurd t1 (textL_ne _)
   | cons c r =>
    by_cases h45 : c = 45
    ·have ec : cutp (c :: r) = (r, true) := by simp only [cutp]; rw [if_pos h45]
     rw [ec] at h2 hv t2 t3 ⊢
     have hne : decV 0 r ≠ 0 := by
      intro y
      simp only at hv t2
      rw [y, dig_zero] at t2
      exact h2 ⟨rfl, by simp only [t2]; rfl⟩
     simp only at t3 hv ⊢
     rw [if_pos (by unfold wv; rw [if_pos rfl, hv]; omega), h45]
    ·have ec : cutp (c :: r) = (c :: r, false) := by simp only [cutp]; rw [if_neg h45]
     rw [ec] at hv t3 ⊢
     simp only at t3 hv ⊢
     rw [if_neg (by unfold wv; rw [if_neg Bool.false_ne_true, hv]; omega)]
 ·rw [if_neg h1] at h; exact absurd h (show ¬ (8 : Int) = 0 by decide)
end Go.Proofs.YthnfmmaolkenkaaDoor.S
/- The reference's texts: the digits of a number, and back. -/
namespace Go.Proofs.YthnfmmaolkenkaaDoor.V
set_option linter.unusedVariables false
set_option linter.unusedSimpArgs false
open Go.RowKit Go.Proofs.YthnfmmaolkenkaaDoor.PA Go.Proofs.YthnfmmaolkenkaaDoor.H Go.Proofs.YthnfmmaolkenkaaDoorW.PrintWords Go.Proofs.YthnfmmaolkenkaaDoorW.PrintLast Go.Proofs.YthnfmmaolkenkaaDoorW.PrintMore

/-! ### decimal digits, the lowest one first -/
def dval : List Int → Int
  | [] => 0
  | x :: r => x + 10 * dval r
def Dig (l : List Int) : Prop := ∀ x ∈ l, 0 ≤ x ∧ x < 10
def t10 (n : Nat) : Int := 10 ^ n
theorem t10_zero : t10 0 = 1 := rfl
theorem t10_succ (n : Nat) : t10 (n + 1) = 10 * t10 n := by unfold t10; rw [Int.pow_succ]; omega
theorem t10_pos (n : Nat) : 0 < t10 n := by
  induction n with
  | zero => decide
  | succ n ih => rw [t10_succ]; omega
theorem dval_append (a b : List Int) : dval (a ++ b) = dval a + t10 a.length * dval b := by
  induction a with
  | nil => simp [dval, t10_zero]
  | cons x a ih => simp only [List.cons_append, dval, ih, List.length_cons, t10_succ]; grind
theorem dval_nonneg {l : List Int} (h : Dig l) : 0 ≤ dval l := by
  induction l with
  | nil => simp [dval]
  | cons x l ih =>
    have := ih (fun y hy => h y (List.mem_cons_of_mem _ hy))
    have := h x List.mem_cons_self
    simp only [dval]; omega
theorem dval_take_succ (l : List Int) (i : Nat) (h : i < l.length) : dval (l.take (i + 1)) = dval (l.take i) + t10 i * l[i] := by
  rw [List.take_succ_eq_append_getElem h, dval_append, List.length_take, Nat.min_eq_left (Nat.le_of_lt h)]
  simp [dval]
/-- No nought stands highest. -/
def Top (l : List Int) : Prop := l ≠ [] → t10 (l.length - 1) ≤ dval l
theorem show_digits (l : List Int) : Dig l → Top l → (l.reverse.map fun x => UInt8.ofNat (48 + x).toNat) = decL (dval l).toNat := by
  induction l with
  | nil => intro _ _; simp [dval, decL_zero]
  | cons x l ih =>
    intro hd ht
    have hx := hd x List.mem_cons_self
    have hdl : Dig l := fun y hy => hd y (List.mem_cons_of_mem _ hy)
    have h0 := dval_nonneg hdl
    have ht' := ht (by simp)
    simp only [List.length_cons, Nat.add_sub_cancel, dval] at ht'
    have htl : Top l := by
      intro hne
      cases l with
      | nil => exact absurd rfl hne
      | cons y r =>
        simp only [List.length_cons, Nat.add_sub_cancel] at ht' ⊢
        rw [t10_succ] at ht'
        omega
    have hp := t10_pos l.length
    have hpos : (dval (x :: l)).toNat ≠ 0 := by simp only [dval]; omega
    rw [decL_pos hpos, List.reverse_cons, List.map_append, ih hdl htl]
    simp only [dval, List.map_cons, List.map_nil]
    rw [show (x + 10 * dval l).toNat / 10 = (dval l).toNat by omega, show (48 + x).toNat = 48 + (x + 10 * dval l).toNat % 10 by omega]
theorem rtext_l2 (d : List Int) (hd : Dig d) (hl : d.length ≤ 1000000000) (j : Nat) (hj : j ≤ d.length) : ∀ out : List Int, out.length = d.length - j → Ev (fun k => gudgeonref01_Text.l2 k d out ((j : Int) - 1)) (strOfNums (out ++ ((d.take j).reverse.map fun x => 48 + x))) := by
  induction j with
  | zero =>
    intro out ho
    refine Ev.step (f := fun _ => some _) (fun k => ?_) (Ev.now _)
    simp only [gudgeonref01_Text.l2]
    rw [if_neg (by omega)]
    simp
  | succ j ih =>
    intro out ho
    have hjd : j < d.length := by omega
    have g := hd d[j] (List.getElem_mem hjd)
    have := ih (by omega) (out ++ [48 + d[j]]) (by simp; omega)
    have e : (out ++ [48 + d[j]]) ++ ((d.take j).reverse.map fun x => 48 + x) = out ++ ((d.take (j + 1)).reverse.map fun x => 48 + x) := by
      rw [List.take_succ_eq_append_getElem hjd]
      simp only [List.reverse_append, List.reverse_cons, List.reverse_nil, List.nil_append, List.map_append, List.map_cons, List.map_nil, List.append_assoc, List.cons_append]
    rw [e] at this
    refine Ev.step (fun k => ?_) this
    simp only [gudgeonref01_Text.l2]
    rw [show ((j + 1 : Nat) : Int) - 1 = (j : Int) by omega, if_pos (by omega), if_pos (by omega), if_pos (by omega), if_pos (by omega), rd_get _ _ hjd, w64 (x := 48 + d[j]) (by omega) (by omega), w64 (by omega) (by omega), Int.emod_eq_of_lt (by omega) (by omega)]
theorem step_dbl {V P c A x q r c0 : Int} (h : V + P * c = 2 * A + c0) (e : r + 10 * q = 2 * x + c) : V + P * r + (10 * P) * q = 2 * (A + P * x) + c0 := by grind
/-- One round of doubling: the digits are doubled, and a bit is put behind. -/
theorem rtext_l1 (B d0 : List Int) (b : Bool) (hd0 : Dig d0) (ht0 : Top d0) (hn : d0.length ≤ 1000000000) (X : List Bool) (i : Nat) (hi : i ≤ 1000000000) (r : ByteArray)
    (hc : ∀ d : List Int, Dig d → Top d → d.length ≤ d0.length + 1 → dval d = 2 * dval d0 + b2i b → Ev (fun k => gudgeonref01_Text.l0 k X d ((i : Int) - 1)) r) (m : Nat) : ∀ (j : Nat) (d : List Int) (c : Int), j + m = d0.length → d.length = d0.length → Dig d → 0 ≤ c → c ≤ 1 → d.drop j = d0.drop j → dval (d.take j) + t10 j * c = 2 * dval (d0.take j) + b2i b →
    Ev (fun k => gudgeonref01_Text.l1 k X d (i : Int) c (j : Int)) r := by
  induction m with
  | zero =>
    intro j d c hj hl hD c0 c1 hdr hv
    obtain rfl : j = d0.length := by omega
    rw [List.take_of_length_le (by omega), List.take_of_length_le (by omega)] at hv
    have hb := b2i_rng b
    have h0 := dval_nonneg hD
    have h00 := dval_nonneg hd0
    by_cases hc0 : c = 0
    · subst hc0
      rw [Int.mul_zero, Int.add_zero] at hv
      refine Ev.step (fun k => ?_) (hc d hD ?_ (by omega) hv)
      · simp only [gudgeonref01_Text.l1]
        rw [if_neg (by omega), if_neg (by omega), w64 (by omega) (by omega)]
      · intro hne
        have hne0 : d0 ≠ [] := by
          intro h
          rw [h] at hl
          exact hne (List.eq_nil_of_length_eq_zero (by simpa using hl))
        have := ht0 hne0
        rw [hl]
        omega
    · have hc1 : c = 1 := by omega
      subst hc1
      rw [Int.mul_one] at hv
      have hval : dval (d ++ [1]) = 2 * dval d0 + b2i b := by
        rw [dval_append, hl]; simp [dval]; omega
      refine Ev.step (fun k => ?_) (hc (d ++ [1]) ?_ ?_ (by simp; omega) hval)
      · simp only [gudgeonref01_Text.l1]
        rw [if_neg (by omega), if_pos (by omega), if_pos (by omega), w64 (by omega) (by omega)]
      · intro x hx
        rcases List.mem_append.1 hx with hx | hx
        · exact hD x hx
        · simp at hx; omega
      · intro _
        rw [dval_append, hl]
        simp [hl, dval]
        omega
  | succ m ih =>
    intro j d c hj hl hD c0 c1 hdr hv
    have hjd : j < d.length := by omega
    have hjd0 : j < d0.length := by omega
    have g := hD d[j] (List.getElem_mem hjd)
    have he : d[j] = d0[j] := by
      have : (d.drop j)[0]? = (d0.drop j)[0]? := by rw [hdr]
      simp only [List.getElem?_drop, Nat.add_zero] at this
      rw [List.getElem?_eq_getElem hjd, List.getElem?_eq_getElem hjd0] at this
      exact Option.some.inj this
    have hnn : 0 ≤ 2 * d[j] + c := by omega
    refine Ev.step (fun k => ?_) (ih (j + 1) (d.set j ((2 * d[j] + c) % 10)) ((2 * d[j] + c) / 10) (by omega) (by simpa using hl) ?_ (by omega) (by omega) ?_ ?_)
    · simp only [gudgeonref01_Text.l1]
      rw [if_pos (by omega), if_pos (by omega), rd_get _ _ hjd, w64 (x := 2 * d[j]) (by omega) (by omega), w64 (x := 2 * d[j] + c) (by omega) (by omega), Int.tmod_eq_emod_of_nonneg hnn, Int.tdiv_eq_ediv_of_nonneg hnn, w64 (x := (2 * d[j] + c) / 10) (by omega) (by omega), w64 (x := (j : Int) + 1) (by omega) (by omega), Int.toNat_natCast]
      rfl
    · intro x hx
      rcases List.mem_or_eq_of_mem_set hx with hx | rfl
      · exact hD x hx
      · omega
    · rw [List.drop_set_of_lt (by omega)]
      have e1 : d.drop (j + 1) = (d.drop j).drop 1 := by rw [List.drop_drop]
      have e2 : d0.drop (j + 1) = (d0.drop j).drop 1 := by rw [List.drop_drop]
      rw [e1, e2, hdr]
    · have e3 : dval ((d.set j ((2 * d[j] + c) % 10)).take (j + 1)) = dval (d.take j) + t10 j * ((2 * d[j] + c) % 10) := by
        rw [dval_take_succ _ _ (by simpa using hjd), List.take_set_of_le (Nat.le_refl j)]
        simp
      rw [e3, dval_take_succ _ _ hjd0, t10_succ, ← he]
      exact step_dbl hv (by omega)
theorem strOfNums_list (l : List Int) : (strOfNums l).data.toList = l.map fun n => UInt8.ofNat n.toNat := rfl
theorem rtext_l0 (X : List Bool) (hX : X.length ≤ 1000000) (i : Nat) (hi : i ≤ X.length) : ∀ d : List Int, Dig d → Top d → d.length ≤ X.length - i → dval d = bval (X.drop i) → Ev (fun k => gudgeonref01_Text.l0 k X d ((i : Int) - 1)) (⟨(textL (bval X).toNat).toArray⟩ : ByteArray) := by
  induction i with
  | zero =>
    intro d hD hT hl hv
    rw [List.drop_zero] at hv
    have hX0 := bval_nonneg X
    by_cases hz : d = []
    · subst hz
      refine Ev.step (f := fun _ => some _) (fun k => ?_) (Ev.now _)
      simp only [dval] at hv
      simp only [gudgeonref01_Text.l0]
      rw [if_neg (by omega), if_pos (by simp), ← hv]
      rfl
    · have := rtext_l2 d hD (by omega) d.length (Nat.le_refl _) [] (by simp)
      have hne : d.length ≠ 0 := fun h => hz (List.eq_nil_of_length_eq_zero h)
      have e : strOfNums ([] ++ ((d.take d.length).reverse.map fun x => 48 + x)) = (⟨(textL (bval X).toNat).toArray⟩ : ByteArray) := by
        apply ba_ext
        rw [strOfNums_list, List.take_of_length_le (Nat.le_refl _), List.nil_append, List.map_map]
        have h1 := show_digits d hD hT
        rw [hv] at h1
        have h2 : (bval X).toNat ≠ 0 := by
          have := hT hz
          have := t10_pos (d.length - 1)
          omega
        have h3 : textL (bval X).toNat = decL (bval X).toNat := by unfold textL; rw [if_neg h2]
        rw [h3, ← h1]
        rfl
      rw [e] at this
      refine Ev.step (fun k => ?_) this
      simp only [gudgeonref01_Text.l0]
      rw [if_neg (by omega), if_neg (by omega), w64 (by omega) (by omega)]
  | succ i ih =>
    intro d hD hT hl hv
    have hdrop := bval_drop_getD X i
    have hb := b2i_rng (X.getD i false)
    have hnext := rtext_l1 [] d (X.getD i false) hD hT (by omega) X i (by omega) _ (fun d' h1 h2 h3 h4 => ih (by omega) d' h1 h2 (by omega) (by rw [h4, hv, hdrop]; omega)) d.length 0 d (b2i (X.getD i false)) (by omega) rfl hD hb.1 hb.2 rfl (by simp [dval, t10_zero])
    refine Ev.step (f := fun k => gudgeonref01_Text.j1 k X d (i : Int) (b2i (X.getD i false))) (fun k => ?_) (Ev.step (fun k => ?_) hnext)
    · simp only [gudgeonref01_Text.l0]
      rw [show ((i + 1 : Nat) : Int) - 1 = (i : Int) by omega, if_pos (by omega), if_pos (by omega), if_pos (by omega), rdOf_D]
      cases X.getD i false
      · rw [if_neg (by decide)]; rfl
      · rw [if_pos rfl]; rfl
    · simp only [gudgeonref01_Text.j1]
      rfl
theorem refText_ev (l : List Int) (hL : Lim l) (hs : SZ l) : Ev (fun k => gudgeonref01_Text.f k l) (⟨(textL (val l).toNat).toArray⟩ : ByteArray) := by
  have hbl := bits_len_of l hL hs
  have hv := val_nonneg hL
  have hs' := hs
  unfold SZ at hs'
  have := rtext_l0 (bits (val l)) (by omega) _ (Nat.le_refl _) [] (fun x h => by cases h) (fun h => absurd rfl h) (by simp) (by rw [List.drop_eq_nil_of_le (Nat.le_refl _)]; rfl)
  rw [bval_bits hv] at this
  refine Ev.congr (fun k => rfl) (Ev.bind (Bits_ev l hL (by omega)) (Ev.congr (fun k => ?_) this))
  rw [w64 (by omega) (by omega)]

/-! ### Parse -/
theorem rparse_l0 (s : ByteArray) (hs : s.data.toList.length ≤ 2000) (d : Nat) : ∀ (i : Nat) (v : Int), i + d = s.data.toList.length → 0 ≤ v → v < p2 (4 * i) →
    Ev (fun k => gudgeonref01_Parse.l0 k s [false, true, false, true] (bits v) (i : Int)) (if (s.data.toList.drop i).all isD then (dig (decV v (s.data.toList.drop i)), 0) else ([], 8)) := by
  induction d with
  | zero =>
    intro i v hi h0 h1
    have hl := bits_length_le h0 h1
    have hlim := Limbs_ev v h0 (by omega)
    rw [List.drop_eq_nil_of_le (by omega)]
    refine Ev.step (fun k => ?_) (Ev.bind (f := fun _ t => some (t, (0 : Int))) hlim (Ev.now _))
    simp only [gudgeonref01_Parse.l0]
    rw [if_neg (by rw [size_len]; omega)]
  | succ d ih =>
    intro i v hi h0 h1
    have hlt : i < s.data.toList.length := by omega
    have hl := bits_length_le h0 h1
    have hdrop : s.data.toList.drop i = s.data.toList[i] :: s.data.toList.drop (i + 1) := List.drop_eq_getElem_cons hlt
    have hb := bt_nat s i hlt
    rw [hdrop]
    obtain ⟨c, hc⟩ : ∃ c, c = s.data.toList[i] := ⟨_, rfl⟩
    rw [← hc] at hb ⊢
    have hfail : isD c = false → Ev (fun k => gudgeonref01_Parse.j2 k s [false, true, false, true] (bits v) (i : Int) true) (if (c :: s.data.toList.drop (i + 1)).all isD then (dig (decV v (c :: s.data.toList.drop (i + 1))), 0) else ([], 8)) := by
      intro hf
      refine Ev.step (f := fun _ => some _) (fun k => ?_) (Ev.now _)
      rw [List.all_cons, hf]
      simp only [gudgeonref01_Parse.j2]
      rfl
    by_cases c1 : c.toNat < 48
    · refine Ev.step (fun k => ?_) (hfail (by unfold isD; simp; omega))
      simp only [gudgeonref01_Parse.l0]
      rw [if_pos (by rw [size_len]; omega), if_pos (by omega), hb, if_pos (by omega)]
    by_cases c2 : 57 < c.toNat
    · refine Ev.step (fun k => ?_) (hfail (by unfold isD; simp; omega))
      simp only [gudgeonref01_Parse.l0]
      rw [if_pos (by rw [size_len]; omega), if_pos (by omega), hb, if_neg (by omega), decide_eq_true (by omega)]
    have ht : isD c = true := by unfold isD; simp; omega
    have hm := bmul_ev [false, true, false, true] (bits v) (by simp) (by omega)
    rw [bval_bits h0, show bval [false, true, false, true] = 10 from by simp [bval, b2i]] at hm
    have h2 : 10 * v < p2 (4 * (i + 1)) := by
      rw [show 4 * (i + 1) = 4 * i + 1 + 1 + 1 + 1 by omega, p2_succ, p2_succ, p2_succ, p2_succ]; omega
    have hml := bits_length_le (n := 10 * v) (by omega) h2
    have hBits := Bits_ev [(c.toNat : Int) - 48] (lim_one (by omega) (by omega)) (by simp)
    rw [val_one] at hBits
    have hbl : (bits ((c.toNat : Int) - 48)).length ≤ 4 := bits_length_le (by omega) (by rw [show p2 4 = 16 from rfl]; omega)
    have ha := badd_ev (bits (10 * v)) (bits ((c.toNat : Int) - 48)) (by unfold LB; omega) (by unfold LB; omega)
    rw [bval_bits (by omega), bval_bits (by omega), show 10 * v + ((c.toNat : Int) - 48) = v * 10 + (c.toNat - 48) by omega] at ha
    have := ih (i + 1) (v * 10 + (c.toNat - 48)) (by omega) (by omega) (by
      rw [show 4 * (i + 1) = 4 * i + 1 + 1 + 1 + 1 by omega, p2_succ, p2_succ, p2_succ, p2_succ]; omega)
    rw [List.all_cons, ht]
    refine Ev.step (f := fun k => gudgeonref01_Parse.j2 k s [false, true, false, true] (bits v) (i : Int) false) (fun k => ?_) (Ev.step (fun k => ?_) (Ev.bind (f := fun k t => (gudgeonref01_Bits.f k [(c.toNat : Int) - 48]).bind fun u => (gudgeonref01_add.f k t u).bind fun z => gudgeonref01_Parse.l0 k s [false, true, false, true] z ((i + 1 : Nat) : Int)) hm (Ev.bind hBits (Ev.bind ha this))))
    · simp only [gudgeonref01_Parse.l0]
      rw [if_pos (by rw [size_len]; omega), if_pos (by omega), hb, if_neg (by omega), decide_eq_false (by omega)]
    · simp only [gudgeonref01_Parse.j2]
      rw [if_neg (by decide)]
      congr 1
      funext t
      rw [if_pos (by omega), if_pos (by rw [size_len]; omega), hb, Int.emod_eq_of_lt (a := (c.toNat : Int) - 48) (by omega) (by omega)]
      congr 1
      funext u
      congr 1
      funext z
      rw [w64 (by omega) (by omega)]
      rfl
theorem refParse_ev (s : ByteArray) (hsz : s.size ≤ 1000000000) : Ev (fun k => gudgeonref01_Parse.f k s) (parseR s.data.toList) := by
  have hl := size_len s
  have hj : Ev (fun k => gudgeonref01_Parse.j0 k s true) ([], 8) := by
    refine Ev.step (f := fun _ => some _) (fun k => ?_) (Ev.now _)
    simp only [gudgeonref01_Parse.j0]
    rfl
  unfold parseR
  by_cases h1 : s.data.toList = []
  · rw [if_pos h1]
    refine Ev.congr (fun k => ?_) hj
    unfold gudgeonref01_Parse.f
    rw [if_pos ((toList_nil s).2 h1)]
  rw [if_neg h1]
  have h1' : ¬ s.toList = ([] : List UInt8) := fun z => h1 ((toList_nil s).1 z)
  by_cases h2 : 2000 < s.data.toList.length
  · rw [if_pos h2]
    refine Ev.congr (fun k => ?_) hj
    unfold gudgeonref01_Parse.f
    rw [if_neg h1', if_pos (by omega)]
  rw [if_neg h2]
  obtain ⟨c, r, hcr⟩ : ∃ c r, s.data.toList = c :: r := by
    cases h : s.data.toList with
    | nil => exact absurd h h1
    | cons c r => exact ⟨c, r, rfl⟩
  have hb : bt s 0 = (c.toNat : Int) := by
    have := bt_nat s 0 (by rw [hcr]; simp)
    simp only [hcr, List.getElem_cons_zero] at this
    exact this
  have hpos : 0 < s.data.toList.length := by rw [hcr]; simp
  have hmain := rparse_l0 s (by omega) s.data.toList.length 0 0 (by omega) (by omega) (by rw [Nat.mul_zero, p2_zero]; omega)
  rw [List.drop_zero, bits_zero] at hmain
  have hj2 : Ev (fun k => gudgeonref01_Parse.j0 k s false) (if s.data.toList.all isD then (dig (decV 0 s.data.toList), 0) else ([], 8)) := by
    refine Ev.step (fun k => ?_) hmain
    simp only [gudgeonref01_Parse.j0]
    rw [if_neg (by decide)]
    rfl
  by_cases hc : c = 48
  · subst hc
    by_cases hlen : s.data.toList.length = 1
    · have hr : r = [] := by rw [hcr] at hlen; simpa using hlen
      rw [if_neg (by rw [hcr, hr]; simp)]
      refine Ev.congr (fun k => ?_) hj2
      unfold gudgeonref01_Parse.f
      rw [if_neg h1', if_neg (by omega), if_pos (by omega), hb, if_pos (by rfl), decide_eq_false (by omega)]
    · have hr : r ≠ [] := by intro h; rw [hcr, h] at hlen; simp at hlen
      rw [if_pos (by rw [hcr]; exact ⟨rfl, by simp [hr]⟩)]
      refine Ev.congr (fun k => ?_) hj
      unfold gudgeonref01_Parse.f
      rw [if_neg h1', if_neg (by omega), if_pos (by omega), hb, if_pos (by rfl), decide_eq_true (by omega)]
  · have hn : ¬ (c.toNat : Int) = 48 := fun h => hc (by rw [← UInt8.toNat_inj, show c.toNat = 48 by omega]; rfl)
    rw [if_neg (by rw [hcr]; simp [hc])]
    refine Ev.congr (fun k => ?_) hj2
    unfold gudgeonref01_Parse.f
    rw [if_neg h1', if_neg (by omega), if_pos (by omega), hb, if_neg hn]
end Go.Proofs.YthnfmmaolkenkaaDoor.V
/- The law WholeTexts, in plain Lean. -/
namespace Go.Proofs.YthnfmmaolkenkaaDoor.S
set_option linter.unusedVariables false
set_option linter.unusedSimpArgs false
open Go.RowKit Go.Proofs.YthnfmmaolkenkaaDoor.V Go.Proofs.YthnfmmaolkenkaaDoor.PA Go.Proofs.YthnfmmaolkenkaaDoor.H Go.Proofs.YthnfmmaolkenkaaDoorW.PrintWords Go.Proofs.YthnfmmaolkenkaaDoorW.PrintLast Go.Proofs.YthnfmmaolkenkaaDoorW.PrintMore

theorem W_dig (b : Bool) {v : Int} (hv : 0 ≤ v) (h : b = true → v ≠ 0) : W (wv b (dig v)) = (b, dig v) := by
 unfold W; rw [az_wv b (dig_lim _), val_dig hv]
 congr 1
 unfold wv; rw [val_dig hv]
 cases b with
 | true => rw [if_pos rfl]; have := h rfl; exact decide_eq_true (by omega)
 | false => rw [if_neg Bool.false_ne_true]; exact decide_eq_false (by omega)
theorem W_parsed (b : Bool) (t : List UInt8) (h : (parseR t).2 = 0) (hb : ¬ (b = true ∧ (parseR t).1.length = 0)) : W (wv b (parseR t).1) = (b, (parseR t).1) := by
 obtain ⟨_, h2, h3⟩ := text_parse t h
 rw [h2] at hb ⊢
 refine W_dig b h3 (fun y z => hb ⟨y, ?_⟩)
 simp only [z, dig_zero, List.length_nil]
theorem bt_cons (c : UInt8) (r : List UInt8) : bt (⟨(c :: r).toArray⟩ : ByteArray) 0 = (c.toNat : Int) := by
 have := bt_nat (⟨(c :: r).toArray⟩ : ByteArray) 0 (by show 0 < (c :: r).length; simp)
 exact this
theorem rParse_j (s d : List UInt8) (b : Bool) (hd : (b = true → s = 45 :: d) ∧ (b = false → s = d)) (hn : d.length ≤ 1000000) :
  Ev (fun k => gudgeonref02_Parse.j0 k (⟨s.toArray⟩ : ByteArray) b) (if (parseR d).2 = 0 then (if b = true ∧ (parseR d).1.length = 0 then (false, [], 8) else (b, (parseR d).1, 0)) else (false, [], 8)) := by
 have P := refParse_ev (⟨d.toArray⟩ : ByteArray) (by show d.length ≤ _; omega)
 have P : Ev (fun k => gudgeonref01_Parse.f k (⟨d.toArray⟩ : ByteArray)) (parseR d) := P
 refine Ev.step (fun k => by rw [gudgeonref02_Parse.j0]) ?_
 cases b with
 | true =>
  obtain rfl := hd.1 rfl
  have e1 : (⟨(45 :: d).toArray⟩ : ByteArray).extract 1 (⟨(45 :: d).toArray⟩ : ByteArray).size = ⟨d.toArray⟩ := by
   apply ByteArray.ext; apply Array.toList_inj.1; rw [ByteArray.data_extract]
   show ((45 :: d).toArray.extract 1 (45 :: d).toArray.size).toList = d
   simp
  refine evP rfl (evP (by show (1 : Int) ≤ ((45 :: d).length : Int); simp only [List.length_cons]; omega) ?_)
  rw [e1]
  refine Ev.bind P ?_
  by_cases h : (parseR d).2 = 0
  ·refine evP h ?_
   by_cases h2 : (parseR d).1.length = 0
   ·exact evP (by omega) (evR (by rw [if_pos h, if_pos ⟨rfl, h2⟩]))
   ·exact evN (by omega) (evR (by rw [if_pos h, if_neg (fun z => h2 z.2)]))
  ·exact evN h (evR (by rw [if_neg h]))
 | false =>
  obtain rfl := hd.2 rfl
  refine evN Bool.false_ne_true (Ev.bind P ?_)
  by_cases h : (parseR s).2 = 0
  ·exact evP h (evR (by rw [if_pos h, if_neg (fun z => Bool.false_ne_true z.1)]))
  ·exact evN h (evR (by rw [if_neg h]))
theorem rParse_ev (s : ByteArray) (hs : s.size ≤ 1000000) : Ev (fun k => gudgeonref02_Parse.f k s) (wparse s.data.toList) := by
 obtain ⟨⟨s⟩⟩ := s
 have hs : s.length ≤ 1000000 := hs
 have hc := cutp_len s
 have key : wparse s = if (parseR (cutp s).1).2 = 0 then (if (cutp s).2 = true ∧ (parseR (cutp s).1).1.length = 0 then (false, [], 8) else ((cutp s).2, (parseR (cutp s).1).1, 0)) else (false, [], 8) := by
  unfold wparse
  by_cases h : (parseR (cutp s).1).2 = 0
  ·rw [if_pos h, if_pos h]
   by_cases h2 : (cutp s).2 = true ∧ (parseR (cutp s).1).1.length = 0
   ·rw [if_pos h2, if_pos h2]
   ·rw [if_neg h2, if_neg h2, W_parsed _ _ h h2]
  ·rw [if_neg h, if_neg h]
 show Ev (fun k => gudgeonref02_Parse.f k (⟨s.toArray⟩ : ByteArray)) (wparse s)
 rw [key]
 cases s with
 | nil =>
  refine Ev.congr (fun k => rfl) (evN (by decide) ?_)
  exact rParse_j [] [] false ⟨fun z => absurd z Bool.false_ne_true, fun _ => rfl⟩ (by simp)
 | cons c r =>
  have hp : (((⟨(c :: r).toArray⟩ : ByteArray).size : Nat) : Int) > 0 := by show (((c :: r).length : Nat) : Int) > 0; simp only [List.length_cons]; omega
  refine Ev.congr (fun k => rfl) (evP hp (evP hp ?_))
  rw [bt_cons]
  by_cases h : c = 45
  ·subst h
   have ec : cutp (45 :: r) = (r, true) := by simp only [cutp, if_true]
   rw [ec, show (((45 : UInt8).toNat : Int) == 45) = true from rfl]
   exact rParse_j (45 :: r) r true ⟨fun _ => rfl, fun z => absurd z.symm Bool.false_ne_true⟩ (by simp only [List.length_cons] at hs; omega)
  ·have ec : cutp (c :: r) = (c :: r, false) := by simp only [cutp]; rw [if_neg h]
   have e : ((c.toNat : Int) == 45) = false := by
    refine beq_eq_false_iff_ne.2 fun z => h ?_
    have : c.toNat = 45 := by omega
    exact UInt8.toNat_inj.1 this
   rw [ec, e]
   exact rParse_j (c :: r) (c :: r) false ⟨fun z => absurd z Bool.false_ne_true, fun _ => rfl⟩ hs
theorem rOf_ev (n : Int) (h0 : -9223372036854775808 ≤ n) (h1 : n ≤ 9223372036854775807) : Ev (fun k => gudgeonref02_Of.f k n) (W n) := by
 by_cases h : n < 0
 ·have e : IntKind.u64.wrap ((IntKind.u64.wrap (wrap64 (-(wrap64 (n + 1))))) + 1) = -n := by
   rw [w64 (x := n + 1) (by omega) (by omega), w64 (by omega) (by omega), u64e, u64e]; omega
  have hl : (dig (-n)).length ≤ 2 := dig_length_le (by omega) (by rw [show pw 2 = 18446744073709551616 from rfl]; omega)
  have R := rNorm_ev true (dig (-n)) (dig_lim _) (by unfold SZ; omega)
  have ew : wv true (dig (-n)) = n := by unfold wv; rw [if_pos rfl, val_dig (by omega)]; omega
  rw [ew] at R
  refine Ev.congr (fun k => rfl) (evP h ?_)
  rw [e]
  exact Ev.bind (refOf_ev (-n) (by omega) (by omega)) (pair_ev R)
 ·have e : IntKind.u64.wrap n = n := by rw [u64e]; omega
  have hl : (dig n).length ≤ 2 := dig_length_le (by omega) (by rw [show pw 2 = 18446744073709551616 from rfl]; omega)
  have R := rNorm_ev false (dig n) (dig_lim _) (by unfold SZ; omega)
  have ew : wv false (dig n) = n := by unfold wv; rw [if_neg Bool.false_ne_true, val_dig (by omega)]
  rw [ew] at R
  refine Ev.congr (fun k => rfl) (evN h ?_)
  rw [e]
  exact Ev.bind (refOf_ev n (by omega) (by omega)) (pair_ev R)
theorem rInt_ev (b : Bool) (l : List Int) (hL : Lim l) (hs : SZ l) : Ev (fun k => gudgeonref02_Int.f k b l) (wint b (val l)) := by
 refine Ev.congr (fun k => rfl) (Ev.bind (refInt_ev l hL hs) ?_)
 unfold wint
 cases b with
 | true => exact evP rfl (evR (by rw [if_pos rfl]))
 | false => exact evN Bool.false_ne_true (evR (by rw [if_neg Bool.false_ne_true]))
theorem rText_ev (b : Bool) (l : List Int) (h : Lim l) (hn : l.length ≤ 1000) : Ev (fun k => gudgeonref02_Text.f k b l) (⟨(wtext (wv b l)).toArray⟩ : ByteArray) := by
 have bl := B_in b h
 have e : az (az (wv b l)) = az (wv b l) := by have := az_nonneg (wv b l); generalize az (wv b l) = t at *; unfold az; rw [if_neg (by omega)]
 have tl := textL_len (m := l.length) (z := az (wv b l)) (az_nonneg _) (by
  unfold B at *; rw [e]; exact bl) hn
 have T := refText_ev l h (Nat.le_trans hn (by decide))
 rw [← az_wv b h] at T
 refine Ev.congr (fun k => rfl) (Ev.bind (rSign_ev b l h (Nat.le_trans hn (by decide))) ?_)
 unfold wtext
 by_cases h0 : wv b l < 0
 ·refine evP ((sg_neg _).2 h0) (Ev.bind T (evP ?_ (evR ?_)))
  ·show 1 + (textL (az (wv b l)).toNat).toArray.size ≤ 9223372036854775807
   rw [List.size_toArray]; omega
  ·rw [if_pos h0]; rfl
 ·refine evN (fun z => h0 ((sg_neg _).1 z)) (Ev.bind T (evR ?_))
  rw [if_neg h0]
theorem wparse_same (s : List UInt8) (hs : s.length ≤ 10000) : Ev (fun k => gudgeonref02_Same.f k (wparse s).1 (wparse s).2.1 (wparse s).1 (wparse s).2.1) true := by
 by_cases h : (wparse s).2.2 = 0
 ·obtain ⟨z, e, _, b⟩ := wtext_wparse s h
  rw [e]
  exact wSame_ev z s.length (by omega) b (W z) rfl
 ·have e : wparse s = (false, [], 8) := by
   unfold wparse at h ⊢
   split
   ·rename_i h1
    rw [if_pos h1] at h
    split
    ·rfl
    ·rename_i h2; rw [if_neg h2] at h; exact absurd rfl h
   ·rfl
  rw [e]
  have := wSame_ev 0 1 (by omega) (B1 (by decide)) (W 0) rfl
  have e : W 0 = (false, []) := by unfold W; rw [show az 0 = 0 from rfl, dig_zero]; rfl
  rw [e] at this
  exact this
theorem WholeTexts (a : Bool) (l : List Int) (hL : Lim l) (s : ByteArray) (n : Int) (h0 : -9223372036854775808 ≤ n) (h1 : n ≤ 9223372036854775807) : ∃ k, gudgeonlaw02_WholeTexts.f k a l s n = some true := by
 refine Ev.rounds ?_
 refine Ev.congr (fun k => rfl) (Ev.bind awake_ev (evP rfl ?_))
 have stop : Ev (fun k => gudgeonlaw02_WholeTexts.j0 k s n true true a l) true := Ev.step (fun k => by rw [gudgeonlaw02_WholeTexts.j0]) (evP rfl (evR rfl))
 by_cases hx : (l.length : Int) > 16
 ·exact evP hx stop
 refine evN hx ?_
 by_cases hy : (s.size : Int) > 200
 ·rw [decide_eq_true hy]; exact stop
 rw [decide_eq_false hy]
 have sz := size_len s
 have hB : B 2 n := by
  unfold B; refine dig_length_le (az_nonneg n) ?_
  rw [show pw 2 = 18446744073709551616 from rfl]; unfold az; split <;> omega
 have sl : SZ l := Nat.le_trans (show l.length ≤ 1000 by omega) (by decide)
 refine Ev.step (fun k => by rw [gudgeonlaw02_WholeTexts.j0]) (evN Bool.false_ne_true ?_)
 refine Ev.bind (wParse_ev s (by omega)) (Ev.bind (rParse_ev s (by omega)) (Ev.bind (wparse_same _ (by omega)) ?_))
 refine evC (wOf_ev n h0 h1) (Ev.bind (rOf_ev n h0 h1) (Ev.bind (wSame_ev n 2 (by omega) hB (W n) rfl) ?_))
 refine Ev.bind (wInt_ev a l hL sl) (Ev.bind (rInt_ev a l hL sl) ?_)
 refine evP rfl (evP rfl (evP rfl (evP rfl (evP (by simp) ?_))))
 refine Ev.bind (wText_ev a l hL (by omega)) (Ev.bind (rText_ev a l hL (by omega)) (evR ?_))
 simp
end Go.Proofs.YthnfmmaolkenkaaDoor.S
/- The law WholeTexts of package gudgeonlaw02 returns true and leaves its arguments as they were, for every input that can be read as data; the library's tables that the row lists read as the program's text lays them, to which the card ties them. -/
namespace Go.Proofs.YthnfmmaolkenkaaDoor.wholeTexts
open Go.ChangeShapes Go.WideShapes Go.ChangeAt Go.RowKit
open Go.ChangeMaps (open_string shut_string)
set_option linter.unusedVariables false
theorem own : ownKnob Tryd.prog.godebug = none := by kernel_rfl
theorem laidOut : laidOutB Tryd.prog = true := by kernel_rfl
def IsRow (k : IntKind) (w : World) (a : Option Addr) (len cap : Nat) (zs : List Int) : Prop :=
  (a = none ∧ len = 0 ∧ cap = 0 ∧ zs = []) ∨
  ∃ x, a = some x ∧ len ≤ cap ∧ cap ≤ maxLen ∧ zs.length = cap ∧ (∀ i, i < zs.length → w.cell? (x.add i) = some (.int k (zs.getD i 0))) ∧ ∀ n ∈ zs, (Lit.int k n).wf = true
noncomputable def laidWorld (os : Os) : World :=
  let w0 := World.holding Tryd.prog os ⟨#[], #[], []⟩
  let put (h : Array Obj) (g : Nat) (cs : Array Value) : Array Obj := h.modify g fun
    | .cells _ t frozen => .cells cs t frozen
    | o => o
  let h0 := w0.heap
  let h1 := put h0 1 #[.int .u8 128, .int .u8 191, .int .u8 160, .int .u8 191, .int .u8 128, .int .u8 159, .int .u8 144, .int .u8 191, .int .u8 128, .int .u8 143, .int .u8 0, .int .u8 0, .int .u8 0, .int .u8 0, .int .u8 0, .int .u8 0, .int .u8 0, .int .u8 0, .int .u8 0, .int .u8 0, .int .u8 0, .int .u8 0, .int .u8 0, .int .u8 0, .int .u8 0, .int .u8 0, .int .u8 0, .int .u8 0, .int .u8 0, .int .u8 0, .int .u8 0, .int .u8 0]
  let h2 := put h1 0 ((Go.Pinned.utf8FirstZ.map fun (n : Nat) => Value.int .u8 (n : Int)).toArray)
  { w0 with heap := h2 }
theorem laidWorld_met (os : Os) (args : Array Value) : laidMetH Tryd.prog Rows.wholeTextsRow.laid ((laidWorld os).forCall (fun _ _ => 0) ⟨#[], args, []⟩).memory :=
  (LaidIn.of_run (P := Tryd.prog) (l := Rows.wholeTextsRow.laid) [1, 0] 8 (by kernel_rfl) (by kernel_rfl) (by kernel_rfl) (by kernel_rfl)).met
set_option maxRecDepth 100000 in
theorem lifted (os : Os) (started : os.Started) (H : Type) (enc : TypeId × Value → H) :
    ReturnsInHanded {} Tryd.checked os 7 .any (fun w args => (Rows.wholeTextsSpec.pre enc Tryd.prog Tryd.f7 Rows.wholeTextsRow.domain false w args ∧ laidMetH Tryd.prog Rows.wholeTextsRow.laid w) ∧ sizedMet enc Tryd.prog Tryd.f7 (OpenSpec.ofChange Rows.wholeTextsSpec) false w args) (Rows.wholeTextsSpec.post enc Tryd.prog Tryd.f7 false true false false) := by
  refine returnsInHanded_of_change_and (C := Tryd.checked) (X := fun w _ => laidMetH Tryd.prog Rows.wholeTextsRow.laid w) (fun _ _ _ hh h => h.of_heap hh) own started (by kernel_rfl) Tryd.func7
    (ChangeSpec.witness_at (enc := enc) (C := Tryd.checked) (os := os) (X := fun w _ => laidMetH Tryd.prog Rows.wholeTextsRow.laid w) false (laidWorld os) #[.agg #[.bool false, .slice none 0 0], .string ByteArray.empty, .int .i64 0] 8 rfl (by kernel_rfl) (by kernel_rfl) (by kernel_rfl) (by kernel_rfl) (by kernel_rfl) (laidWorld_met os _)) ?_
  intro W base args ds gs before hval0 hW hcnd hsz0 hL _
  have hsz : (DataW.weightsEach Tryd.prog (Tryd.f7.params.toList ++ Rows.wholeTextsSpec.plain.varTypes Tryd.prog) (ds ++ gs)).all (· ≤ reachBytes) = true := hsz0
  have hval : ∀ (j : Nat) t v, Tryd.f7.params[j]? = some t → args[j]? = some v → Value.okWide Tryd.prog W .any base t v := hval0
  have hW' := hW
  obtain ⟨p, q, hA0, hV, rfl, hfz, hnd⟩ := hW
  have hA : DataW.TrodAll enc Tryd.prog W 0 (fun _ => true) true Tryd.f7.params.toList args.toList ds p := hA0
  rw [Tryd.params7] at hA hval hsz
  obtain ⟨v0, vs0, d0, ds0, p0, q0, hargs, rfl, rfl, h0, r0⟩ := trodAll_cons hA
  obtain ⟨v1, vs1, d1, ds1, p1, q1, rfl, rfl, rfl, h1, r1⟩ := trodAll_cons r0
  obtain ⟨v2, vs2, d2, ds2, p2, q2, rfl, rfl, rfl, h2, r2⟩ := trodAll_cons r1
  obtain ⟨rfl, rfl, rfl⟩ := trodAll_nil r2
  obtain rfl : args = #[v0, v1, v2] := by cases args; simp_all
  obtain ⟨rfl, rfl⟩ := trodVars_none hV
  have k0 := h0
  have lt0 : ∀ x ∈ p0, x.block < W.heap.size := by obtain ⟨m, hm⟩ := k0; exact DataW.trod_lt m _ _ _ hm
  obtain ⟨u0a, u0b, y0a, y0b, n0, rfl, rfl, rfl, ga0, gb0⟩ := Go.Joins.open_agg2 Tryd.underlying24 (by kernel_rfl) (by kernel_rfl) (hval 0 24 v0 rfl rfl) h0
  obtain ⟨b0, e0, _⟩ := DataW.trod_bool Tryd.underlying4 ga0
  simp only [List.cons.injEq, and_true] at e0
  subst e0
  obtain ⟨A0, len0, cap0, zs0, rfl, w0⟩ : ∃ A n c zs, u0b = .slice A n c ∧ IsRow .u32 W A n c zs := by
    rcases open_ints Tryd.underlying22 Tryd.underlying51 (by kernel_rfl) gb0 with ⟨hcs, _⟩ | ⟨x, l, c, zs, hcs, _, hl, hm, hz, _, hcell, hwz⟩
    · simp at hcs; exact ⟨none, 0, 0, [], hcs, .inl ⟨rfl, rfl, rfl, rfl⟩⟩
    · simp at hcs; exact ⟨some x, l, c, zs, hcs, .inr ⟨_, rfl, hl, hm, by simpa using hz, hcell, hwz⟩⟩
  obtain ⟨l0, rfl, hr0, hm0, hw0, hc0⟩ := Go.Proofs.YthnfmmaolkenkaaDoorW.PrintWords.ReadsInt.ofRowC w0
  obtain ⟨s1, rfl, rfl, rfl, z1⟩ := open_string Tryd.underlying9 (hval 1 9 v1 rfl rfl) h1
  obtain ⟨a2, rfl, rfl, rfl, w2⟩ := open_int Tryd.underlying3 (hval 2 3 v2 rfl rfl) h2
  have hb2 := (bounds_i64 w2)
  clear hA0 hval0 hsz0 hsz
  obtain ⟨k, hk⟩ := Go.Proofs.YthnfmmaolkenkaaDoor.S.WholeTexts b0 l0 (Go.Proofs.YthnfmmaolkenkaaDoor.S.lim_wf hw0) s1 a2 (by omega) (by omega)
  refine (PA.gudgeonlaw02_WholeTexts.calls k b0 _ _ l0 s1 a2 true W (Go.Proofs.YthnfmmaolkenkaaDoorW.PrintWords.Kd.C_of_reads (d := (0 : Int)) (h1 := fun _ => rfl) hr0) hc0 hk).mono fun e W' ⟨he, bel⟩ => ?_
  subst he
  exact ⟨_, rfl, _, _, _, [], _, [], hW', trodAll_mk1 (shut_bool Tryd.underlying4 _), (trodAll_cons_mk (Below.trod laidOut (by kernel_rfl) (of_decide_eq_true (by kernel_rfl)) k0 bel lt0) (trodAll_cons_mk (shut_string Tryd.underlying9 z1) (trodAll_cons_mk (shut_int Tryd.underlying3 w2) trodAll_mk0))), rfl, bel.frame _, fun h => by cases h⟩
theorem over : Rows.wholeTextsRow.holds Tryd.pinned (OpenSpec.ofChange Rows.wholeTextsSpec) :=
  OpenClaim.holds_of_wide 7 Tryd.f7 rfl rfl rfl rfl rfl rfl rfl ⟨rfl, rfl, rfl, rfl, rfl⟩ rfl rfl rfl rfl rfl (by kernel_rfl) Tryd.func7 (by kernel_rfl)
    (of_decide_eq_true (by kernel_rfl)) (by unfold Func.isWrapper; first | (rw [if_pos (by decide +kernel)]; kernel_rfl) | (rw [if_neg (by decide +kernel)]; exact ⟨rfl, rfl⟩))
    (fun os started H enc _ => lifted os started H enc)
theorem carded : Rows.WholeTextsCardSaid :=
  Claim7.holds_tied_plain_at .later [] [.data, .pinned] true (true, "ba68cb9603c955314ec3c17bd3894557d5c64f67e14ac306d1ac9aa1e21bbfb4") false
    over (fun _ h => by cases h) (by kernel_rfl) (fun _ h => by cases h) wholeTexts_row_tie rfl ⟨rfl, rfl⟩ (by kernel_rfl) rfl
    (fun f fn hf hfn => by
      obtain rfl : f = 7 := Option.some.inj ((show Tryd.prog.funcNamed "gudgeon/gudgeonlaw02.WholeTexts" = some 7 by kernel_rfl).symm.trans hf) |>.symm
      obtain rfl : fn = Tryd.f7 := (Option.some.inj (Tryd.func7.symm.trans hfn)).symm
      exact ⟨by kernel_rfl, fun j t ht => by
        rw [Tryd.params7] at ht
        have hm := Array.mem_of_getElem? ht
        simp only [List.mem_toArray, List.mem_cons, List.not_mem_nil, or_false] at hm
        rcases hm with rfl | rfl | rfl
        · exact (show Tryd.prog.wantsStandIn 24 = false by kernel_rfl)
        · exact (show Tryd.prog.wantsStandIn 9 = false by kernel_rfl)
        · exact (show Tryd.prog.wantsStandIn 3 = false by kernel_rfl)⟩)
    (by kernel_rfl)
end Go.Proofs.YthnfmmaolkenkaaDoor.wholeTexts
namespace Go.Proofs.YthnfmmaolkenkaaDoor
/-- The card, under a short name, for the claim. -/
theorem wholeTexts_card : Rows.WholeTextsCardSaid := wholeTexts.carded
end Go.Proofs.YthnfmmaolkenkaaDoor
