/- Joined by wip/tools/bundle.py for the claim of NatParts: NatC, PAx20, NatR, PAx24, NatT, NatD, NatE, NatQ, NatLParts, PureNatParts, LawNatParts. -/
import Derived.Test.YtlfpnohpcemkgaaDoorJNatParts3
import Derived.Test.YtlfpnohpcemkgaaDoorJNatParts2
import Derived.Test.YtlfpnohpcemkgaaDoorJNatParts1
import Derived.Lib.BitFns
import Derived.Test.YtlfpnohpcemkgaaDoorRows
import Derived.WalkKit
import Derived.Test.YtlfpnohpcemkgaaDoorTie
import Derived.Test.YtlfpnohpcemkgaaDoorCards
import Derived.SevenTiedAt
import Derived.Handed
import Derived.Lib.LaidIn
import Derived.Lib.LaidU8
import Derived.ProofKit
import Derived.OpenShut
import Derived.ShutString
import Derived.ChangeOld
import Derived.Below
import Derived.SizedLaws
import Derived.Test.YtlfpnohpcemkgaaDoorWSized
/- What nat's products, and a number by a small one, and moved bits are, as numbers. -/
namespace Go.Proofs.YtlfpnohpcemkgaaDoor.V
set_option linter.unusedVariables false
set_option linter.unusedSimpArgs false
open Go.RowKit Go.Proofs.YtlfpnohpcemkgaaDoor.PA Go.Proofs.YtlfpnohpcemkgaaDoor.H Go.Proofs.YtlfpnohpcemkgaaDoorW.PrintWords Go.Proofs.YtlfpnohpcemkgaaDoorW.PrintLast Go.Proofs.YtlfpnohpcemkgaaDoorW.PrintMore

theorem mul_bd {x y X Y : Int} (h0 : 0 ≤ x) (h1 : x ≤ X) (g0 : 0 ≤ y) (g1 : y ≤ Y) : 0 ≤ x * y ∧ x * y ≤ X * Y :=
  ⟨Int.mul_nonneg h0 g0, Int.mul_le_mul h1 g1 g0 (by omega)⟩
theorem mul_bd32 {x y : Int} (hx : 0 ≤ x ∧ x < 4294967296) (hy : 0 ≤ y ∧ y < 4294967296) : 0 ≤ x * y ∧ x * y ≤ 18446744065119617025 :=
  mul_bd hx.1 (show x ≤ 4294967295 by omega) hy.1 (show y ≤ 4294967295 by omega)
theorem getD_get (l : List Int) (i : Nat) (h : i < l.length) : l.getD i 0 = l[i] := by simp [List.getD_eq_getElem?_getD, h]
theorem getD_set_ne (l : List Int) (i p : Nat) (x : Int) (h : i ≠ p) : (l.set i x).getD p 0 = l.getD p 0 := by
  simp [List.getD_eq_getElem?_getD, h]
/-- Noughts from a place on. -/
def Zf (l : List Int) (n : Nat) : Prop := ∀ p, n ≤ p → l.getD p 0 = 0
theorem Zf.set {l : List Int} {n i : Nat} {x : Int} (h : Zf l n) (hi : i < n) : Zf (l.set i x) n := fun p hp => by
  rw [getD_set_ne _ _ _ _ (by omega)]; exact h p hp
theorem Zf.zeros (m n : Nat) : Zf (List.replicate m 0) n := fun p _ => by
  rw [List.getD_eq_getElem?_getD]
  by_cases h : p < m <;> simp [h]
theorem step_mul {W V0 Pi pj P x y c q r vb o : Int} (h : W + P * c = V0 + Pi * x * vb) (e : r + 4294967296 * q = c + (x * y + o)) (hP : P = Pi * pj) : W + P * (r - o) + (4294967296 * P) * q = V0 + Pi * x * (vb + pj * y) := by
  subst hP
  grind
theorem mul_l1 (a b : List Int) (ha : Lim a) (hb : Lim b) (hna : a.length < 1000000000) (hnb : b.length < 1000000000) (i : Nat) (hi : i < a.length) (x V0 : Int) (hx : 0 ≤ x ∧ x < 4294967296) (r : List Int)
    (hc : ∀ out, out.length = a.length + b.length → Lim out → val out = V0 + pw i * x * val b → Zf out (i + 1 + b.length) → Ev (fun k => nat_Mul.l0 k b out a (a.length : Int) ((i + 1 : Nat) : Int)) r) (d : Nat) : ∀ (j : Nat) (out : List Int) (c : Int), j + d = b.length → out.length = a.length + b.length → Lim out → 0 ≤ c → c < 4294967296 → val out + pw (i + j) * c = V0 + pw i * x * val (b.take j) → Zf out (i + b.length) →
    Ev (fun k => nat_Mul.l1 k b out (i : Int) x c a (a.length : Int) (i : Int) (b.length : Int) (j : Int)) r := by
  induction d with
  | zero =>
    intro j out c hj ho hL c0 c1 hv hz
    obtain rfl : j = b.length := by omega
    have hp : i + b.length < out.length := by omega
    refine Ev.step (fun k => ?_) (hc (out.set (i + b.length) c) (by simpa using ho) (hL.set _ c0 c1) ?_ ?_)
    · simp only [nat_Mul.l1]
      rw [if_neg (by omega), w64 (by omega) (by omega), if_pos (by omega), if_pos (by omega), w64 (by omega) (by omega), show ((i : Int) + (b.length : Int)).toNat = i + b.length by omega, show c % 4294967296 = c by omega]
      rfl
    · have h0 := hz (i + b.length) (Nat.le_refl _)
      rw [getD_get _ _ hp] at h0
      rw [val_set _ _ _ hp, h0]
      rw [List.take_of_length_le (by omega)] at hv
      rw [Int.sub_zero]; exact hv
    · intro p hpp
      rw [getD_set_ne _ _ _ _ (by omega)]
      exact hz p (by omega)
  | succ d ih =>
    intro j out c hj ho hL c0 c1 hv hz
    have hjb : j < b.length := by omega
    have hp : i + j < out.length := by omega
    have gb := hb.get j hjb
    have go := hL.get (i + j) hp
    have hm := mul_bd32 hx gb
    refine Ev.step (fun k => ?_) (ih (j + 1) (out.set (i + j) ((c + (x * b[j] + out[i + j])) % 4294967296)) ((c + (x * b[j] + out[i + j])) / 4294967296) (by omega) (by simpa using ho) (hL.set _ (by omega) (by omega)) (by omega) (by omega) ?_ (hz.set (by omega)))
    · simp only [nat_Mul.l1]
      rw [if_pos (by omega), if_pos (by omega), if_pos (by omega), w64 (x := (i : Int) + (j : Int)) (by omega) (by omega), if_pos (by omega), if_pos (by omega), show ((i : Int) + (j : Int)) = ((i + j : Nat) : Int) by omega, rd_get _ _ hp, rd_get _ _ hjb, u64 (x := x) (by omega) (by omega), u64 (x := b[j]) (by omega) (by omega), u64 (x := x * b[j]) (by omega) (by omega), u64 (x := out[i + j]) (by omega) (by omega), u64 (x := x * b[j] + out[i + j]) (by omega) (by omega), u64 (by omega) (by omega), w64 (by omega) (by omega), Int.toNat_natCast]
      rfl
    · rw [val_set _ _ _ hp, val_take_succ _ _ hjb, ← Nat.add_assoc, pw_succ]
      exact step_mul hv (by omega) (pw_add i j)
theorem mul_l0 (a b : List Int) (ha : Lim a) (hb : Lim b) (hna : a.length < 1000000000) (hnb : b.length < 1000000000) (d : Nat) : ∀ (i : Nat) (out : List Int), i + d = a.length → out.length = a.length + b.length → Lim out → val out = val (a.take i) * val b → Zf out (i + b.length) →
    Ev (fun k => nat_Mul.l0 k b out a (a.length : Int) (i : Int)) (dig (val a * val b)) := by
  induction d with
  | zero =>
    intro i out hi ho hL hv hz
    obtain rfl : i = a.length := by omega
    refine Ev.step (f := fun _ => some _) (fun k => ?_) (Ev.now _)
    simp only [nat_Mul.l0]
    rw [if_neg (by omega), norm_ev out hL (by omega), hv, List.take_of_length_le (by omega)]
    rfl
  | succ d ih =>
    intro i out hi ho hL hv hz
    have hia : i < a.length := by omega
    have ga := ha.get i hia
    refine Ev.step (fun k => ?_) (mul_l1 a b ha hb hna hnb i hia a[i] (val (a.take i) * val b) ga _ (fun out' h1 h2 h3 h4 => ih (i + 1) out' (by omega) h1 h2 ?_ h4) b.length 0 out 0 (by omega) ho hL (by omega) (by omega) ?_ hz)
    · simp only [nat_Mul.l0]
      rw [if_pos (by omega), if_pos (by omega), if_pos (by omega), rd_get _ _ hia]
      rfl
    · rw [h3, val_take_succ _ _ hia]; grind
    · simp [hv, val]
theorem mul_ev (a b : List Int) (ha : Lim a) (hb : Lim b) (hna : a.length < 1000000000) (hnb : b.length < 1000000000) : Ev (fun k => nat_Mul.f k a b) (dig (val a * val b)) := by
  refine Ev.congr (fun k => ?_) (mul_l0 a b ha hb hna hnb a.length 0 (List.replicate (a.length + b.length) 0) (by omega) (by simp) (Lim.zeros _) (by simp [val, val_zeros]) (Zf.zeros _ _))
  unfold nat_Mul.f
  rw [w64 (by omega) (by omega), if_pos (by omega), if_pos (by omega), show ((a.length : Int) + (b.length : Int)).toNat = a.length + b.length by omega]
  rfl

/-! ### a number by a small one -/
theorem wraps_u64 (n : Int) (h0 : 0 ≤ n) (h1 : n < 2 ^ 64) : IntKind.u64.wrap n = n := u64 h0 (by omega)
theorem or_join {x y : Int} (hx : 0 ≤ x ∧ x < 4294967296) (hy : 0 ≤ y ∧ y < 4294967296) : Go.bits .or .u64 (x * 4294967296) y = x * 4294967296 + y :=
  bits_join .u64 64 (by decide) wraps_u64 32 _ _ (by omega) (by omega) (by omega) hy.1 (by omega) (by omega)
theorem div_unique {a b q r : Int} (hb : 0 < b) (h : q * b + r = a) (h0 : 0 ≤ r) (h1 : r < b) : a / b = q ∧ a % b = r :=
  (Int.ediv_emod_unique hb).2 ⟨by rw [← h, Int.mul_comm]; omega, h0, h1⟩
theorem drop_set_self (l : List Int) (i : Nat) (x : Int) (h : i < l.length) : (l.set i x).drop i = x :: l.drop (i + 1) := by
  rw [List.drop_eq_getElem_cons (by simpa using h)]
  simp [List.drop_set_of_lt]
theorem small_l0 (a : List Int) (n : Int) (ha : Lim a) (hn0 : 0 < n) (hn1 : n ≤ 4294967296) (hna : a.length < 1000000000) (d : Nat) : ∀ (out : List Int) (r : Int), d ≤ a.length → out.length = a.length → Lim out → 0 ≤ r → r < n → val (out.drop d) * n + r = val (a.drop d) →
    Ev (fun k => nat_small.l0 k a n out r ((d : Int) - 1)) (dig (val a / n), val a % n) := by
  induction d with
  | zero =>
    intro out r hd ho hL r0 r1 hv
    refine Ev.step (f := fun _ => some _) (fun k => ?_) (Ev.now _)
    simp only [nat_small.l0]
    rw [if_neg (by omega), norm_ev out hL (by omega)]
    simp only [List.drop_zero] at hv
    obtain ⟨e1, e2⟩ := div_unique hn0 hv r0 r1
    rw [e1, e2]
    rfl
  | succ d ih =>
    intro out r hd ho hL r0 r1 hv
    have hda : d < a.length := by omega
    have hdo : d < out.length := by omega
    have ga := ha.get d hda
    have ho1 : Go.bits .or .u64 (IntKind.u64.wrap (r * 4294967296)) (IntKind.u64.wrap a[d]) = r * 4294967296 + a[d] := by
      rw [u64 (by omega) (by omega), u64 (by omega) (by omega)]
      exact or_join ⟨r0, by omega⟩ ga
    have hX0 : 0 ≤ r * 4294967296 + a[d] := by omega
    have hq0 : 0 ≤ (r * 4294967296 + a[d]) / n := Int.ediv_nonneg hX0 (by omega)
    have hq1 : (r * 4294967296 + a[d]) / n < 4294967296 := by
      apply Int.ediv_lt_of_lt_mul hn0
      have : (r + 1) * 4294967296 ≤ n * 4294967296 := Int.mul_le_mul_of_nonneg_right (by omega) (by omega)
      omega
    have hm0 := Int.emod_nonneg (r * 4294967296 + a[d]) (show n ≠ 0 by omega)
    have hm1 := Int.emod_lt_of_pos (r * 4294967296 + a[d]) hn0
    have hqr := Int.mul_ediv_add_emod (r * 4294967296 + a[d]) n
    refine Ev.step (fun k => ?_) (ih (out.set d ((r * 4294967296 + a[d]) / n)) ((r * 4294967296 + a[d]) % n) (by omega) (by simpa using ho) (hL.set _ hq0 hq1) hm0 hm1 ?_)
    · simp only [nat_small.l0]
      have e : ((d + 1 : Nat) : Int) - 1 = (d : Int) := by omega
      rw [e, if_pos (by omega), if_pos (by omega), if_pos (by omega), if_neg (by omega), if_pos (by omega), rd_get _ _ hda, ho1, Int.tdiv_eq_ediv_of_nonneg hX0, Int.tmod_eq_emod_of_nonneg hX0, u64 hq0 (by omega), Int.emod_eq_of_lt hq0 hq1, w64 (by omega) (by omega), Int.toNat_natCast]
    · rw [drop_set_self _ _ _ hdo, val_drop_cons _ _ hda]
      simp only [val]
      rw [← hv]
      generalize (r * 4294967296 + a[d]) / n = q at *
      generalize (r * 4294967296 + a[d]) % n = s at *
      grind
theorem small_ev (a : List Int) (n : Int) (ha : Lim a) (hn0 : 0 < n) (hn1 : n ≤ 4294967296) (hna : a.length < 1000000000) : Ev (fun k => nat_small.f k a n) (dig (val a / n), val a % n) := by
  refine Ev.congr (fun k => ?_) (small_l0 a n ha hn0 hn1 hna a.length (List.replicate a.length 0) 0 (Nat.le_refl _) (by simp) (Lim.zeros _) (by omega) (by omega) (by rw [List.drop_eq_nil_of_le (by simp), List.drop_eq_nil_of_le (by omega)]; simp [val]))
  unfold nat_small.f
  rw [if_pos (by omega), if_pos (by omega), w64 (by omega) (by omega), Int.toNat_natCast]

/-! ### moved bits -/
theorem wraps_u32 (n : Int) (h0 : 0 ≤ n) (h1 : n < 2 ^ 32) : IntKind.u32.wrap n = n := by rw [IntKind.wrap_u32]; omega
theorem or_comm_ (k : IntKind) (x y : Int) : Go.bits .or k x y = Go.bits .or k y x := by
  simp only [Go.bits, BitVec.or_comm]
theorem p_pos (n : Nat) : (0 : Int) < 2 ^ n := Int.pow_pos (by omega)
theorem p_split {n : Nat} (hn : n ≤ 32) : (2 : Int) ^ n * 2 ^ (32 - n) = 4294967296 := by
  rw [← Int.pow_add, show n + (32 - n) = 32 by omega]; rfl
theorem p_le {n : Nat} (hn : n ≤ 31) : (2 : Int) ^ n ≤ 2147483648 := by
  have := Nat.pow_le_pow_right (n := 2) (by omega) hn
  have e : (2 : Int) ^ n = ((2 ^ n : Nat) : Int) := by simp
  omega
theorem or_low {n : Nat} (hn : n ≤ 31) {x y : Int} (hx0 : 0 ≤ x) (hx1 : x < 2 ^ n) (hy0 : 0 ≤ y) (hy1 : y < 4294967296) (hy : y % 2 ^ n = 0) : Go.bits .or .u32 x y = x + y := by
  have := p_le hn
  rw [or_comm_, bits_join .u32 32 (by decide) wraps_u32 n y x hy0 hy (by omega) hx0 hx1 (by omega)]
  omega
theorem shl_u64 (x : Int) (n : Nat) (hn : n ≤ 31) (hx : 0 ≤ x ∧ x < 4294967296) : shl .u64 x (n : Int) = x * 2 ^ n ∧ 0 ≤ x * 2 ^ n ∧ x * 2 ^ n < 9223372036854775808 := by
  have h1 := p_pos n
  have h2 := p_le hn
  have h3 := mul_bd hx.1 (show x ≤ 4294967295 by omega) (Int.le_of_lt h1) h2
  refine ⟨?_, h3.1, by omega⟩
  unfold shl
  rw [Int.toNat_natCast, Nat.min_eq_left (by simp [IntKind.bits]; omega), u64 h3.1 (by omega)]
theorem mulmod_p {n : Nat} (hn : n ≤ 31) (x : Int) : (x * 2 ^ n) % 4294967296 % 2 ^ n = 0 := by
  rw [Int.emod_emod_of_dvd _ ⟨2 ^ (32 - n), (p_split (by omega)).symm⟩, Int.mul_emod_left]
theorem left_l0 (a : List Int) (n : Nat) (ha : Lim a) (hn : n ≤ 31) (hna : a.length < 1000000000) (d : Nat) : ∀ (i : Nat) (out : List Int), i + d = a.length → out.length = a.length + 1 → Lim out → out.getD i 0 < 2 ^ n → val (out.take (i + 1)) = val (a.take i) * 2 ^ n →
    ∃ o, Ev (fun k => nat_left.l0 k (n : Int) out a (a.length : Int) (i : Int)) o ∧ o.length = a.length + 1 ∧ Lim o ∧ val o = val a * 2 ^ n := by
  have hp := p_pos n
  have hp1 := p_le hn
  induction d with
  | zero =>
    intro i out hi ho hL h1 hv
    obtain rfl : i = a.length := by omega
    rw [List.take_of_length_le (by omega), List.take_of_length_le (by omega)] at hv
    refine ⟨out, Ev.step (f := fun _ => some _) (fun k => ?_) (Ev.now _), ho, hL, hv⟩
    simp only [nat_left.l0]
    rw [if_neg (by omega)]
  | succ d ih =>
    intro i out hi ho hL h1 hv
    have hia : i < a.length := by omega
    have hio : i < out.length := by omega
    have hio' : i + 1 < out.length := by omega
    have ga := ha.get i hia
    have go := hL.get i hio
    rw [getD_get _ _ hio] at h1
    obtain ⟨s1, s2, s3⟩ := shl_u64 a[i] n hn ga
    have hlow := mulmod_p hn a[i]
    have hor := or_low hn go.1 h1 (show 0 ≤ (a[i] * 2 ^ n) % 4294967296 by omega) (by omega) hlow
    have hq : (a[i] * 2 ^ n) / 4294967296 < 2 ^ n := by
      apply Int.ediv_lt_of_lt_mul (by omega)
      rw [Int.mul_comm (a[i])]
      exact Int.mul_lt_mul_of_pos_left ga.2 hp
    have hsum : out[i] + (a[i] * 2 ^ n) % 4294967296 < 4294967296 := by
      -- the low part is a multiple of 2^n below 2^32
      have e := Int.mul_ediv_add_emod ((a[i] * 2 ^ n) % 4294967296) (2 ^ n)
      rw [hlow] at e
      have hs := p_split (n := n) (by omega)
      have hs0 := p_pos (32 - n)
      have : (a[i] * 2 ^ n) % 4294967296 / 2 ^ n < 2 ^ (32 - n) := by
        apply Int.ediv_lt_of_lt_mul hp
        rw [Int.mul_comm (2 ^ (32 - n)), hs]; omega
      have h5 : 2 ^ n * ((a[i] * 2 ^ n) % 4294967296 / 2 ^ n + 1) ≤ 2 ^ n * 2 ^ (32 - n) := Int.mul_le_mul_of_nonneg_left (by omega) (Int.le_of_lt hp)
      rw [Int.mul_add, Int.mul_one] at h5
      omega
    have hstep := fun o' h2 h3 h4 h5 => ih (i + 1) o' (by omega) h2 h3 h4 h5
    obtain ⟨o, ho1, ho2, ho3, ho4⟩ := hstep ((out.set i (out[i] + (a[i] * 2 ^ n) % 4294967296)).set (i + 1) ((a[i] * 2 ^ n) / 4294967296)) (by simpa using ho) ((hL.set i (by omega) hsum).set (i + 1) (by omega) (by omega)) (by rw [getD_get _ _ (by simpa using hio')]; simpa using hq) (by
      rw [val_set_take _ _ _ (by simpa using hio'), val_set_take _ _ _ hio]
      rw [val_take_succ _ _ hio] at hv
      rw [val_take_succ _ _ hia, pw_succ]
      have e := Int.mul_ediv_add_emod (a[i] * 2 ^ n) 4294967296
      generalize a[i] * 2 ^ n / 4294967296 = q at *
      generalize a[i] * 2 ^ n % 4294967296 = r at *
      grind)
    refine ⟨o, Ev.step (fun k => ?_) ho1, ho2, ho3, ho4⟩
    simp only [nat_left.l0]
    rw [if_pos (by omega), if_pos (by omega), if_pos (by omega), if_pos (by omega), if_pos (by omega), w64 (by omega) (by omega), if_pos (by omega), if_pos (by omega), rd_get _ _ hio, rd_get _ _ hia, u64 (x := a[i]) ga.1 (by omega), s1, hor, Int.toNat_natCast, show ((i : Int) + 1).toNat = i + 1 by omega, Int.emod_eq_of_lt (a := a[i] * 2 ^ n / 4294967296) (by omega) (by omega)]
    rfl
theorem left_ev (a : List Int) (n : Nat) (ha : Lim a) (hn : n ≤ 31) (hna : a.length < 1000000000) : ∃ o, Ev (fun k => nat_left.f k a (n : Int)) o ∧ o.length = a.length + 1 ∧ Lim o ∧ val o = val a * 2 ^ n := by
  obtain ⟨o, h1, h2⟩ := left_l0 a n ha hn hna a.length 0 (List.replicate (a.length + 1) 0) (by omega) (by simp) (Lim.zeros _) (by have := p_pos n; simp; exact this) (by simp [val, List.replicate_succ])
  refine ⟨o, Ev.congr (fun k => ?_) h1, h2⟩
  unfold nat_left.f
  rw [w64 (by omega) (by omega), if_pos (by omega), if_pos (by omega), show ((a.length : Int) + 1).toNat = a.length + 1 by omega]
  rfl
theorem shr_u64 (x : Int) (n : Nat) (hn : n ≤ 31) : shr .u64 x (n : Int) = x / 2 ^ n := by
  unfold shr
  rw [Int.toNat_natCast, Nat.min_eq_left (by simp [IntKind.bits]; omega)]
/-- One limb of a number moved down. -/
theorem right_limb {p s X a : Int} (hp : 0 < p) (hs : 0 < s) (hps : p * s = 4294967296) (hX : 0 ≤ X ∧ X < 4294967296) (ha : 0 ≤ a ∧ a < 4294967296) : ((X * 4294967296 + a) / p % 4294967296) * p = (X % p) * 4294967296 + (a - a % p) ∧ 0 ≤ (X * 4294967296 + a) / p % 4294967296 ∧ (X * 4294967296 + a) / p % 4294967296 < 4294967296 := by
  have e1 : X * 4294967296 + a = a + p * (X * s) := by rw [← hps]; grind
  have e2 : (X * 4294967296 + a) / p = a / p + X * s := by rw [e1, Int.add_mul_ediv_left _ _ (by omega)]
  have e3 := Int.mul_ediv_add_emod X p
  have e4 := Int.mul_ediv_add_emod a p
  have m0 := Int.emod_nonneg X (show p ≠ 0 by omega)
  have m1 := Int.emod_lt_of_pos X hp
  have h0 : 0 ≤ a / p := Int.ediv_nonneg ha.1 (by omega)
  have h1 : a / p < s := Int.ediv_lt_of_lt_mul hp (by rw [Int.mul_comm s, hps]; exact ha.2)
  have e5 : (X * 4294967296 + a) / p = (X / p) * 4294967296 + ((X % p) * s + a / p) := by
    rw [e2, ← hps]
    generalize X / p = u at *
    generalize X % p = v at *
    generalize a / p = t at *
    subst e3
    grind
  have hb0 : 0 ≤ (X % p) * s := Int.mul_nonneg m0 (by omega)
  have hb1 : (X % p + 1) * s ≤ p * s := Int.mul_le_mul_of_nonneg_right (by omega) (by omega)
  rw [Int.add_mul, Int.one_mul, hps] at hb1
  have e6 : (X * 4294967296 + a) / p % 4294967296 = (X % p) * s + a / p := by
    rw [e5]
    generalize X % p * s = z at *
    omega
  refine ⟨?_, by omega, by omega⟩
  rw [e6]
  have : (X % p * s + a / p) * p = (X % p) * (p * s) + p * (a / p) := by grind
  rw [this, hps]
  omega
theorem right_l0 (a : List Int) (n : Nat) (ha : Lim a) (hn : n ≤ 31) (hna : a.length < 1000000000) (d : Nat) : ∀ (i : Nat) (out : List Int), i + d = a.length → out.length = a.length → Lim out → val (out.take i) * 2 ^ n + a.getD 0 0 % 2 ^ n = val (a.take i) + pw i * (a.getD i 0 % 2 ^ n) →
    Ev (fun k => nat_right.l0 k a (n : Int) out (a.length : Int) (i : Int)) (dig (val a / 2 ^ n)) := by
  have hp := p_pos n
  induction d with
  | zero =>
    intro i out hi ho hL hv
    obtain rfl : i = a.length := by omega
    refine Ev.step (f := fun _ => some _) (fun k => ?_) (Ev.now _)
    simp only [nat_right.l0]
    rw [if_neg (by omega), norm_ev out hL (by omega)]
    simp only [Option.bind_some]
    rw [List.take_of_length_le (by omega), List.take_of_length_le (by omega), List.getD_eq_getElem?_getD (i := a.length), List.getElem?_eq_none (by omega)] at hv
    simp only [Option.getD_none, Int.zero_emod, Int.mul_zero, Int.add_zero] at hv
    have h0 := Int.emod_nonneg (a.getD 0 0) (show (2 : Int) ^ n ≠ 0 by omega)
    have h1 := Int.emod_lt_of_pos (a.getD 0 0) hp
    rw [(div_unique hp hv h0 h1).1]
  | succ d ih =>
    intro i out hi ho hL hv
    have hia : i < a.length := by omega
    have hio : i < out.length := by omega
    have ga := ha.get i hia
    have gx := ha.getD (i + 1)
    obtain ⟨e1, e2, e3⟩ := right_limb hp (p_pos (32 - n)) (p_split (by omega)) gx ga
    refine Ev.step (fun k => ?_) (ih (i + 1) (out.set i ((a.getD (i + 1) 0 * 4294967296 + a[i]) / 2 ^ n % 4294967296)) (by omega) (by simpa using ho) (hL.set _ e2 e3) ?_)
    · simp only [nat_right.l0]
      rw [if_pos (by omega), w64 (x := (i : Int) + 1) (by omega) (by omega), show (i : Int) + 1 = ((i + 1 : Nat) : Int) by omega, limb_ev _ _ ha]
      simp only [Option.bind_some]
      rw [if_pos (by omega), if_pos (by omega), if_pos (by omega), if_pos (by omega), rd_get _ _ hia, u64 (x := a[i]) ga.1 (by omega), u64 (x := a.getD (i + 1) 0 * 4294967296) (by omega) (by omega), or_join gx ga, shr_u64 _ _ hn, Int.toNat_natCast]
    · rw [val_set_take _ _ _ hio, val_take_succ _ _ hia, pw_succ]
      rw [getD_get _ _ hia] at hv
      generalize (a.getD (i + 1) 0 * 4294967296 + a[i]) / 2 ^ n % 4294967296 = z at *
      generalize a.getD (i + 1) 0 % 2 ^ n = y at *
      generalize a[i] % 2 ^ n = w at *
      generalize (2 : Int) ^ n = p at *
      grind
theorem right_ev (a : List Int) (n : Nat) (ha : Lim a) (hn : n ≤ 31) (hna : a.length < 1000000000) : Ev (fun k => nat_right.f k a (n : Int)) (dig (val a / 2 ^ n)) := by
  refine Ev.congr (fun k => ?_) (right_l0 a n ha hn hna a.length 0 (List.replicate a.length 0) (by omega) (by simp) (Lim.zeros _) (by simp [val, pw_zero]))
  unfold nat_right.f
  rw [if_pos (by omega), if_pos (by omega)]
  simp only [Int.toNat_natCast]
  rfl
end Go.Proofs.YtlfpnohpcemkgaaDoor.V
/- Written by a program of this session, wip/tools/patch_print.py, over the kit's print of the loaded functions. -/
namespace Go.Proofs.YtlfpnohpcemkgaaDoor.H
end Go.Proofs.YtlfpnohpcemkgaaDoor.H
namespace Go.Proofs.YtlfpnohpcemkgaaDoor.PA
open Go.RowKit Go.Proofs.YtlfpnohpcemkgaaDoorW.PrintWords Go.Proofs.YtlfpnohpcemkgaaDoorW.PrintLast Go.Proofs.YtlfpnohpcemkgaaDoorW.PrintMore Go.Proofs.YtlfpnohpcemkgaaDoor.H
attribute [local go_sem] max2_int min2_int max_two min_two max_three min_three max_four min_four   -- for this text's walks alone
set_option linter.unusedVariables false
set_option linter.unusedSimpArgs false

/-! ### gudgeonref01_add: function 44 -/
mutual
def gudgeonref01_add.l0 : Nat → List Bool → List Bool → List Bool → Bool → Int → Option (List Bool)
 | 0, _, _, _, _, _ => none
 | k + 1, x0, x1, x5, x6, x7 => if x7 < (x0.length : Int) then (gudgeonref01_add.j1 k x0 x1 x5 x6 x7 true) else (if x7 < (x1.length : Int) then (gudgeonref01_add.j1 k x0 x1 x5 x6 x7 true) else (gudgeonref01_add.j1 k x0 x1 x5 x6 x7 x6))
def gudgeonref01_add.j1 : Nat → List Bool → List Bool → List Bool → Bool → Int → Bool → Option (List Bool)
 | 0, _, _, _, _, _, _ => none
 | k + 1, x0, x1, x5, x6, x7, x23 => if x23 = true then ((gudgeonref01_at.f x0 x7).bind fun t579 => ((gudgeonref01_at.f x1 x7).bind fun t580 => (if t579 = true then (gudgeonref01_add.j2 k x0 x1 x5 x6 x7 t580 (0 + 1)) else (gudgeonref01_add.j2 k x0 x1 x5 x6 x7 t580 0)))) else ((gudgeonref01_trim.f k x5).bind fun t576 => (some t576))
def gudgeonref01_add.j2 : Nat → List Bool → List Bool → List Bool → Bool → Int → Bool → Int → Option (List Bool)
 | 0, _, _, _, _, _, _, _ => none
 | k + 1, x0, x1, x5, x6, x7, x9, x10 => if x9 = true then (if x6 = true then (if x5.length < 140737488355328 then (gudgeonref01_add.l0 k x0 x1 (x5 ++ [((Int.tmod (wrap64 ((wrap64 (x10 + 1)) + 1)) 2) == 1)]) (decide ((wrap64 ((wrap64 (x10 + 1)) + 1)) > 1)) (wrap64 (x7 + 1))) else (none)) else (if x5.length < 140737488355328 then (gudgeonref01_add.l0 k x0 x1 (x5 ++ [((Int.tmod (wrap64 (x10 + 1)) 2) == 1)]) (decide ((wrap64 (x10 + 1)) > 1)) (wrap64 (x7 + 1))) else (none))) else (if x6 = true then (if x5.length < 140737488355328 then (gudgeonref01_add.l0 k x0 x1 (x5 ++ [((Int.tmod (wrap64 (x10 + 1)) 2) == 1)]) (decide ((wrap64 (x10 + 1)) > 1)) (wrap64 (x7 + 1))) else (none)) else (if x5.length < 140737488355328 then (gudgeonref01_add.l0 k x0 x1 (x5 ++ [((Int.tmod x10 2) == 1)]) (decide (x10 > 1)) (wrap64 (x7 + 1))) else (none)))
end
def gudgeonref01_add.f (k : Nat) (l0 : List Bool) (l1 : List Bool) : Option (List Bool) := gudgeonref01_add.l0 k l0 l1 ([] : List Bool) false 0
theorem gudgeonref01_add.mono_l : ∀ k, (∀ y0 y1 y2 y3 y4, LeO (gudgeonref01_add.l0 k y0 y1 y2 y3 y4) (gudgeonref01_add.l0 (k + 1) y0 y1 y2 y3 y4)) ∧ (∀ y0 y1 y2 y3 y4 y5, LeO (gudgeonref01_add.j1 k y0 y1 y2 y3 y4 y5) (gudgeonref01_add.j1 (k + 1) y0 y1 y2 y3 y4 y5)) ∧ (∀ y0 y1 y2 y3 y4 y5 y6, LeO (gudgeonref01_add.j2 k y0 y1 y2 y3 y4 y5 y6) (gudgeonref01_add.j2 (k + 1) y0 y1 y2 y3 y4 y5 y6))
 | 0 => ⟨fun _ _ _ _ _ r h => by simp [gudgeonref01_add.l0] at h, fun _ _ _ _ _ _ r h => by simp [gudgeonref01_add.j1] at h, fun _ _ _ _ _ _ _ r h => by simp [gudgeonref01_add.j2] at h⟩
 | k + 1 => by
  obtain ⟨ih0, ih1, ih2⟩ := gudgeonref01_add.mono_l k
  refine ⟨?_, ?_, ?_⟩
  ·intro y0 y1 y2 y3 y4
   unfold gudgeonref01_add.l0
   repeat' first
   | (with_reducible exact ih0 _ _ _ _ _)
   | (with_reducible exact ih1 _ _ _ _ _ _)
   | (with_reducible exact ih2 _ _ _ _ _ _ _)
   | (with_reducible exact gudgeonref01_trim.mono _ _)
   | (with_reducible exact LeO.refl _)
   | (with_reducible exact LeO.none _)
   | (with_reducible refine LeO.ite ?_ ?_)
   | (with_reducible refine LeO.bind ?_ (fun _ => ?_))
   | exact ih0 _ _ _ _ _
   | exact ih1 _ _ _ _ _ _
   | exact ih2 _ _ _ _ _ _ _
   | exact gudgeonref01_trim.mono _ _
   | exact LeO.none _
   | refine LeO.ite ?_ ?_
   | refine LeO.bind ?_ (fun _ => ?_)
  ·intro y0 y1 y2 y3 y4 y5
   unfold gudgeonref01_add.j1
   repeat' first
   | (with_reducible exact ih0 _ _ _ _ _)
   | (with_reducible exact ih1 _ _ _ _ _ _)
   | (with_reducible exact ih2 _ _ _ _ _ _ _)
   | (with_reducible exact gudgeonref01_trim.mono _ _)
   | (with_reducible exact LeO.refl _)
   | (with_reducible exact LeO.none _)
   | (with_reducible refine LeO.ite ?_ ?_)
   | (with_reducible refine LeO.bind ?_ (fun _ => ?_))
   | exact ih0 _ _ _ _ _
   | exact ih1 _ _ _ _ _ _
   | exact ih2 _ _ _ _ _ _ _
   | exact gudgeonref01_trim.mono _ _
   | exact LeO.none _
   | refine LeO.ite ?_ ?_
   | refine LeO.bind ?_ (fun _ => ?_)
  ·intro y0 y1 y2 y3 y4 y5 y6
   unfold gudgeonref01_add.j2
   repeat' first
   | (with_reducible exact ih0 _ _ _ _ _)
   | (with_reducible exact ih1 _ _ _ _ _ _)
   | (with_reducible exact ih2 _ _ _ _ _ _ _)
   | (with_reducible exact gudgeonref01_trim.mono _ _)
   | (with_reducible exact LeO.refl _)
   | (with_reducible exact LeO.none _)
   | (with_reducible refine LeO.ite ?_ ?_)
   | (with_reducible refine LeO.bind ?_ (fun _ => ?_))
   | exact ih0 _ _ _ _ _
   | exact ih1 _ _ _ _ _ _
   | exact ih2 _ _ _ _ _ _ _
   | exact gudgeonref01_trim.mono _ _
   | exact LeO.none _
   | refine LeO.ite ?_ ?_
   | refine LeO.bind ?_ (fun _ => ?_)
theorem gudgeonref01_add.mono : ∀ a0 a1 k, LeO (gudgeonref01_add.f k a0 a1) (gudgeonref01_add.f (k + 1) a0 a1) := by
 intro a0 a1 k
 obtain ⟨ih0, ih1, ih2⟩ := gudgeonref01_add.mono_l k
 unfold gudgeonref01_add.f
 repeat' first
   | (with_reducible exact ih0 _ _ _ _ _)
   | (with_reducible exact ih1 _ _ _ _ _ _)
   | (with_reducible exact ih2 _ _ _ _ _ _ _)
   | (with_reducible exact gudgeonref01_trim.mono _ _)
   | (with_reducible exact LeO.refl _)
   | (with_reducible exact LeO.none _)
   | (with_reducible refine LeO.ite ?_ ?_)
   | (with_reducible refine LeO.bind ?_ (fun _ => ?_))
   | exact ih0 _ _ _ _ _
   | exact ih1 _ _ _ _ _ _
   | exact ih2 _ _ _ _ _ _ _
   | exact gudgeonref01_trim.mono _ _
   | exact LeO.none _
   | refine LeO.ite ?_ ?_
   | refine LeO.bind ?_ (fun _ => ?_)
set_option maxHeartbeats 8000000 in
set_option maxRecDepth 100000 in
theorem gudgeonref01_add.calls (k : Nat) (A0 : Option Addr) (c0 : Nat) (l0 : List Bool) (A1 : Option Addr) (c1 : Nat) (l1 : List Bool) (r : List Bool) (w : World) (hr0 : Kd.C Kd.bool w A0 l0.length l0) (hc0 : l0.length ≤ c0) (hr1 : Kd.C Kd.bool w A1 l1.length l1) (hc1 : l1.length ≤ c1) (h : gudgeonref01_add.f k l0 l1 = some r) :
  Calls Tryd.prog 44 #[.slice A0 l0.length c0, .slice A1 l1.length c1] w fun e w' => ∃ v0_ : Value, e = .returned (v0_) ∧ Kd.R Kd.bool 4 w' w.heap.size (fun _ => True) v0_ r ∧ Below w.heap.size w w' := by
 have HR0 := Aside0.mk hr0
 have HC0 := Aside0.mk hc0
 clear hr0 hc0
 have HR1 := Aside0.mk hr1
 have HC1 := Aside0.mk hc1
 clear hr1 hc1
 have HB := Aside0.mk (Below.refl w.heap.size w)
 have H : (gudgeonref01_add.l0 k l0 l1 ([] : List Bool) false 0) = some r := h
 clear h
 have H' := Aside0.mk H
 clear H
 go_enter Tryd.func44, Tryd.ntmps44
 go_wp2
 go_loopg [5, 6, 7] k (fun kq v5 v6 v7 w' => ∃ (x5_1 : List Bool) (x6_1 : Bool) (x7_1 : Int), v6 = .bool x6_1 ∧ v7 = .int .i64 x7_1 ∧ Aside0 (gudgeonref01_add.l0 kq l0 l1 x5_1 x6_1 x7_1 = some r) ∧ Aside0 (kq ≤ k) ∧ Aside0 (Kd.R Kd.bool 4 w' w.heap.size (fun _ => True) v5 x5_1) ∧ Aside0 (Below w.heap.size w w'))
 case atStart => exact ⟨(([] : List Bool)), (false), (0), (by first | rfl | (simp; done) | (simp [*]; done) | (refine congrArg (Value.int _) ?_; omega) | (refine congrArg Value.bool ?_; generalize ByteArray.toList _ = z_; cases z_ <;> rfl)), (by first | rfl | (simp; done) | (simp [*]; done) | (refine congrArg (Value.int _) ?_; omega) | (refine congrArg Value.bool ?_; generalize ByteArray.toList _ = z_; cases z_ <;> rfl)), H', ⟨Nat.le_refl _⟩, ⟨by first | exact Kd.R_nil _ _ _ _ _ | exact Kd.N_nil _ _ _ _ _ | exact Kd.V_nil _ _ _ _ _ | exact Kd.Q_nil _ _ _ _ _ | exact Kd.S_nil _ _ _ _ _⟩, ⟨by repeat first | exact HB.out | apply below_alloc | apply pw_below_drewN | apply below_drew1⟩⟩
 case round =>
  clear H'
  try clear c1
  try clear p2
  obtain ⟨x5_1, x6_1, x7_1, rfl, rfl, HA, HK1, HO_5, HB⟩ := hrel
  cases gk with
  | zero => exact absurd HA.out (by simp [gudgeonref01_add.l0])
  | succ k1 =>
   have H := HA.out
   clear HA
   simp only [gudgeonref01_add.l0] at H
   have HC3 := Aside0.mk H
   clear H
   go_upto_region 4 with (fail)
   go_cut [23] (fun v23 wc => ∃ (kq : Nat) (x23_2 : Bool), v23 = .bool x23_2 ∧ Aside0 (gudgeonref01_add.j1 kq l0 l1 x5_1 x6_1 x7_1 x23_2 = some r) ∧ Aside0 (kq ≤ k1) ∧ Aside0 (Kd.R Kd.bool 4 wc w.heap.size (fun _ => True) u5 x5_1) ∧ Aside0 (Below w.heap.size w wc))
   case first =>
    have H := HC3.out
    clear HC3
    by_cases c4 : x7_1 < (l0.length : Int)
    ·rw [if_pos c4] at H
     have c4b0 : decide (x7_1 < (l0.length : Int)) = true := decide_eq_true c4
     clear c4
     (first | rw [c4b0] | rw [c4b1] | (simp only [i64_w, i32_w]; rw [c4b0]) | skip)
     have H' := Aside0.mk H
     clear H
     go_wp2
     go_meet
     case rel => exact ⟨_, (true), (by first | rfl | (simp; done) | (simp [*]; done) | (refine congrArg (Value.int _) ?_; omega) | (refine congrArg Value.bool ?_; generalize ByteArray.toList _ = z_; cases z_ <;> rfl)), H', ⟨by have := HK1.out; first | omega | exact Nat.le_refl _⟩, ⟨by (with_reducible repeat (first | apply Kd.R_alloc | apply Kd.R_drewN | apply Kd.R_drew)); exact HO_5.out⟩, ⟨by repeat first | exact HB.out | apply below_alloc | apply pw_below_drewN | apply below_drew1⟩⟩
    ·rw [if_neg c4] at H
     have c4b0 : decide (x7_1 < (l0.length : Int)) = false := decide_eq_false c4
     clear c4
     (first | rw [c4b0] | rw [c4b1] | (simp only [i64_w, i32_w]; rw [c4b0]) | skip)
     by_cases c5 : x7_1 < (l1.length : Int)
     ·rw [if_pos c5] at H
      have c5b0 : decide (x7_1 < (l1.length : Int)) = true := decide_eq_true c5
      clear c5
      have H' := Aside0.mk H
      clear H
      go_wp2
      go_meet
      case rel => exact ⟨_, (true), (by first | rfl | (simp; done) | (simp [*]; done) | (refine congrArg (Value.int _) ?_; omega) | (refine congrArg Value.bool ?_; generalize ByteArray.toList _ = z_; cases z_ <;> rfl)), H', ⟨by have := HK1.out; first | omega | exact Nat.le_refl _⟩, ⟨by (with_reducible repeat (first | apply Kd.R_alloc | apply Kd.R_drewN | apply Kd.R_drew)); exact HO_5.out⟩, ⟨by repeat first | exact HB.out | apply below_alloc | apply pw_below_drewN | apply below_drew1⟩⟩
     ·rw [if_neg c5] at H
      have c5b0 : decide (x7_1 < (l1.length : Int)) = false := decide_eq_false c5
      clear c5
      have H' := Aside0.mk H
      clear H
      go_wp2
      go_meet
      case rel => exact ⟨_, (x6_1), (by first | rfl | (simp; done) | (simp [*]; done) | (refine congrArg (Value.int _) ?_; omega) | (refine congrArg Value.bool ?_; generalize ByteArray.toList _ = z_; cases z_ <;> rfl)), H', ⟨by have := HK1.out; first | omega | exact Nat.le_refl _⟩, ⟨by (with_reducible repeat (first | apply Kd.R_alloc | apply Kd.R_drewN | apply Kd.R_drew)); exact HO_5.out⟩, ⟨by repeat first | exact HB.out | apply below_alloc | apply pw_below_drewN | apply below_drew1⟩⟩
   case rest =>
    clear HC3
    try clear c1
    try clear p2
    try clear c4
    try clear c4b0
    try clear c5
    try clear c5b0
    try clear p2
    obtain ⟨kq, x23_2, rfl, HA, HJ2, HO_5, HB⟩ := hcut
    cases kq with
    | zero => exact absurd HA.out (by simp [gudgeonref01_add.j1])
    | succ kj2 =>
     have H := HA.out
     clear HA
     simp only [gudgeonref01_add.j1] at H
     by_cases c6 : x23_2 = true
     ·subst c6
      have H1 : ((gudgeonref01_at.f l0 x7_1).bind fun t579 => ((gudgeonref01_at.f l1 x7_1).bind fun t580 => (if t579 = true then (gudgeonref01_add.j2 kj2 l0 l1 x5_1 x6_1 x7_1 t580 (0 + 1)) else (gudgeonref01_add.j2 kj2 l0 l1 x5_1 x6_1 x7_1 t580 0)))) = some r := by rw [if_pos rfl] at H; exact H
      clear H
      have H := H1
      clear H1
      replace H := Option.bind_eq_some_iff.mp H
      obtain ⟨t579, A70, H⟩ := H
      replace H : ((gudgeonref01_at.f l1 x7_1).bind fun t580 => (if t579 = true then (gudgeonref01_add.j2 kj2 l0 l1 x5_1 x6_1 x7_1 t580 (0 + 1)) else (gudgeonref01_add.j2 kj2 l0 l1 x5_1 x6_1 x7_1 t580 0))) = some r := H
      have A7 := Aside0.mk A70
      clear A70
      replace H := Option.bind_eq_some_iff.mp H
      obtain ⟨t580, A80, H⟩ := H
      replace H : (if t579 = true then (gudgeonref01_add.j2 kj2 l0 l1 x5_1 x6_1 x7_1 t580 (0 + 1)) else (gudgeonref01_add.j2 kj2 l0 l1 x5_1 x6_1 x7_1 t580 0)) = some r := H
      have A8 := Aside0.mk A80
      clear A80
      have HC9 := Aside0.mk H
      clear H
      go_upto_if 32 with (first | ((with_reducible refine gate_callee (f := 56) rfl ?_); refine goesL_ (some 28) rfl rfl Tryd.func56 (by kernel_rfl) rfl #[.slice A0 l0.length c0, .int .i64 x7_1] rfl (by (try simp only [List.map_toArray, List.map_cons, List.map_nil]); first | done | rfl | (simp only [List.length_drop, List.length_take]; rfl)) ?_; (with_reducible refine (gudgeonref01_at.calls _ _ l0 x7_1 t579 _ ?side1 ?side2 A7.out).mono ?_); (case side1 => repeat (first | exact (Kd.C_below HR0.out HB.out) | (with_reducible refine Kd.C_alloc ?_ _) | (with_reducible refine Kd.C_drewN ?_ _) | (with_reducible refine Kd.C_drew ?_))); (case side2 => exact HC0.out); rintro e w' ⟨rfl, ⟨nd, rfl⟩⟩; refine ⟨_, rfl, ?_⟩) | ((with_reducible refine gate_callee (f := 56) rfl ?_); refine goesL_ (some 31) rfl rfl Tryd.func56 (by kernel_rfl) rfl #[.slice A1 l1.length c1, .int .i64 x7_1] rfl (by (try simp only [List.map_toArray, List.map_cons, List.map_nil]); first | done | rfl | (simp only [List.length_drop, List.length_take]; rfl)) ?_; (with_reducible refine (gudgeonref01_at.calls _ _ l1 x7_1 t580 _ ?side1 ?side2 A8.out).mono ?_); (case side1 => repeat (first | exact (Kd.C_below HR1.out (by repeat first | exact HB.out | apply below_alloc | apply pw_below_drewN | apply below_drew1)) | (with_reducible refine Kd.C_alloc ?_ _) | (with_reducible refine Kd.C_drewN ?_ _) | (with_reducible refine Kd.C_drew ?_))); (case side2 => exact HC1.out); rintro e w' ⟨rfl, ⟨nd, rfl⟩⟩; refine ⟨_, rfl, ?_⟩))
      (try simp only [Act.put, List.setIfInBounds_toArray, List.set_cons_zero, List.set_cons_succ])
      go_cut [10] (fun v10 wc => ∃ (kq : Nat) (x10_8 : Int), v10 = .int .i64 x10_8 ∧ Aside0 (gudgeonref01_add.j2 kq l0 l1 x5_1 x6_1 x7_1 t580 x10_8 = some r) ∧ Aside0 (kq ≤ kj2) ∧ Aside0 (Kd.R Kd.bool 4 wc w.heap.size (fun _ => True) u5 x5_1) ∧ Aside0 (Below w.heap.size w wc))
      case first =>
       have H := HC9.out
       clear HC9
       by_cases c10 : t579 = true
       ·subst c10
        have H1 : (gudgeonref01_add.j2 kj2 l0 l1 x5_1 x6_1 x7_1 t580 (0 + 1)) = some r := by rw [if_pos rfl] at H; exact H
        clear H
        have H := H1
        clear H1
        have H' := Aside0.mk H
        clear H
        go_wp2
        go_meet
        case rel => exact ⟨_, (0 + 1), (by first | rfl | (simp; done) | (simp [*]; done) | (refine congrArg (Value.int _) ?_; omega) | (refine congrArg Value.bool ?_; generalize ByteArray.toList _ = z_; cases z_ <;> rfl)), H', ⟨by have := HK1.out; have := HJ2.out; first | omega | exact Nat.le_refl _⟩, ⟨by (with_reducible repeat (first | apply Kd.R_alloc | apply Kd.R_drewN | apply Kd.R_drew)); exact HO_5.out⟩, ⟨by repeat first | exact HB.out | apply below_alloc | apply pw_below_drewN | apply below_drew1⟩⟩
       ·replace c10 := Bool.eq_false_iff.mpr c10
        subst c10
        have H1 : (gudgeonref01_add.j2 kj2 l0 l1 x5_1 x6_1 x7_1 t580 0) = some r := by rw [if_neg (show ¬ (false = true) by decide)] at H; exact H
        clear H
        have H := H1
        clear H1
        have H' := Aside0.mk H
        clear H
        go_wp2
        go_meet
        case rel => exact ⟨_, (0), (by first | rfl | (simp; done) | (simp [*]; done) | (refine congrArg (Value.int _) ?_; omega) | (refine congrArg Value.bool ?_; generalize ByteArray.toList _ = z_; cases z_ <;> rfl)), H', ⟨by have := HK1.out; have := HJ2.out; first | omega | exact Nat.le_refl _⟩, ⟨by (with_reducible repeat (first | apply Kd.R_alloc | apply Kd.R_drewN | apply Kd.R_drew)); exact HO_5.out⟩, ⟨by repeat first | exact HB.out | apply below_alloc | apply pw_below_drewN | apply below_drew1⟩⟩
      case rest =>
       clear HC9
       try clear c1
       try clear p2
       try clear c4
       try clear c4b0
       try clear c5
       try clear c5b0
       try clear c6
       try clear c10
       try clear p2
       obtain ⟨kq, x10_8, rfl, HA, HJ8, HO_5, HB⟩ := hcut
       cases kq with
       | zero => exact absurd HA.out (by simp [gudgeonref01_add.j2])
       | succ kj8 =>
        have H := HA.out
        clear HA
        simp only [gudgeonref01_add.j2] at H
        by_cases c11 : t580 = true
        ·subst c11
         have H1 : (if x6_1 = true then (if x5_1.length < 140737488355328 then (gudgeonref01_add.l0 kj8 l0 l1 (x5_1 ++ [((Int.tmod (wrap64 ((wrap64 (x10_8 + 1)) + 1)) 2) == 1)]) (decide ((wrap64 ((wrap64 (x10_8 + 1)) + 1)) > 1)) (wrap64 (x7_1 + 1))) else (none)) else (if x5_1.length < 140737488355328 then (gudgeonref01_add.l0 kj8 l0 l1 (x5_1 ++ [((Int.tmod (wrap64 (x10_8 + 1)) 2) == 1)]) (decide ((wrap64 (x10_8 + 1)) > 1)) (wrap64 (x7_1 + 1))) else (none))) = some r := by rw [if_pos rfl] at H; exact H
         clear H
         have H := H1
         clear H1
         by_cases c12 : x6_1 = true
         ·subst c12
          have H1 : (if x5_1.length < 140737488355328 then (gudgeonref01_add.l0 kj8 l0 l1 (x5_1 ++ [((Int.tmod (wrap64 ((wrap64 (x10_8 + 1)) + 1)) 2) == 1)]) (decide ((wrap64 ((wrap64 (x10_8 + 1)) + 1)) > 1)) (wrap64 (x7_1 + 1))) else (none)) = some r := by rw [if_pos rfl] at H; exact H
          clear H
          have H := H1
          clear H1
          by_cases c13 : x5_1.length < 140737488355328
          ·rw [if_pos c13] at H
           have LMc13 := Aside0.mk c13
           clear c13
           obtain ⟨y581, hy581⟩ : ∃ y_ : List Bool, y_ = (x5_1 ++ [((Int.tmod (wrap64 ((wrap64 (x10_8 + 1)) + 1)) 2) == 1)]) := ⟨_, rfl⟩
           replace H : (gudgeonref01_add.l0 kj8 l0 l1 y581 (decide ((wrap64 ((wrap64 (x10_8 + 1)) + 1)) > 1)) (wrap64 (x7_1 + 1))) = some r := by first | (rw [hy581]; with_reducible exact H) | (have H2_ := (Option.bind_some _ _).symm.trans H; rw [hy581]; with_reducible exact H2_) | (have H2_ := (Option.bind_some _ _).symm.trans H; with_reducible exact H2_) | with_reducible exact H | (rw [hy581]; exact H) | exact H
           have Ny581 := Aside0.mk hy581
           clear hy581
           have H' := Aside0.mk H
           clear H
           go_wp2_with (first | ((with_reducible refine gate_builtin (b := .append) (xs := #[.tmp 41, .tmp 45]) rfl ?_); (try (refine gate_guard (by rfl) ?_; dsimp only)); at_builtin; refine Kd.R_append Kd.bool (w0 := w) w.heap.size rfl (.tmp 41) (.tmp 45) 49 4 (.bool false) 1 rfl Tryd.underlying49 info4 rfl (by decide) (by omega) u5 x5_1 ((Int.tmod (wrap64 ((wrap64 (x10_8 + 1)) + 1)) 2) == 1) [.bool ((Int.tmod (wrap64 ((wrap64 (x10_8 + 1)) + 1)) 2) == 1)] (fun _ => True) (fun _ => False) rfl rfl ?aP (fun _ hk => hk.elim) ?aF ?aO ?aB ?aS ?aL ?_; (case aP => exact rfl); (case aB => exact (by repeat first | exact HB.out | apply below_alloc | apply pw_below_drewN | apply below_drew1)); (case aF => exact (fun _ _ => trivial)); (case aO => exact HO_5.out); (case aS => exact (below_size (by repeat first | exact HB.out | apply below_alloc | apply pw_below_drewN | apply below_drew1))); (case aL => have := LMc13.out; omega); intro v582 w14 ho hb hg hat; rw [← Ny581.out] at ho; have n0_ := Aside0.mk (hb); have n1_ := Aside0.mk (ho); clear HB; clear HO_5; have HB := n0_; have HO583 := n1_; clear n0_ n1_; clear ho hb hg hat))
           go_roundg kj8
           case measure => have := HK1.out; have := HJ2.out; have := HJ8.out; omega
           case rel => exact ⟨(y581), (decide ((wrap64 ((wrap64 (x10_8 + 1)) + 1)) > 1)), (wrap64 (x7_1 + 1)), (by first | rfl | (simp; done) | (simp [*]; done) | (refine congrArg (Value.int _) ?_; omega) | (refine congrArg Value.bool ?_; generalize ByteArray.toList _ = z_; cases z_ <;> rfl)), (by first | rfl | (simp; done) | (simp [*]; done) | (refine congrArg (Value.int _) ?_; omega) | (refine congrArg Value.bool ?_; generalize ByteArray.toList _ = z_; cases z_ <;> rfl)), H', ⟨by have := HK1.out; have := HJ2.out; have := HJ8.out; omega⟩, ⟨by (with_reducible repeat (first | apply Kd.R_alloc | apply Kd.R_drewN | apply Kd.R_drew)); exact HO583.out⟩, ⟨by repeat first | exact HB.out | apply below_alloc | apply pw_below_drewN | apply below_drew1⟩⟩
          ·rw [if_neg c13] at H
           exact absurd H (by simp)
         ·replace c12 := Bool.eq_false_iff.mpr c12
          subst c12
          have H1 : (if x5_1.length < 140737488355328 then (gudgeonref01_add.l0 kj8 l0 l1 (x5_1 ++ [((Int.tmod (wrap64 (x10_8 + 1)) 2) == 1)]) (decide ((wrap64 (x10_8 + 1)) > 1)) (wrap64 (x7_1 + 1))) else (none)) = some r := by rw [if_neg (show ¬ (false = true) by decide)] at H; exact H
          clear H
          have H := H1
          clear H1
          by_cases c15 : x5_1.length < 140737488355328
          ·rw [if_pos c15] at H
           have LMc15 := Aside0.mk c15
           clear c15
           obtain ⟨y584, hy584⟩ : ∃ y_ : List Bool, y_ = (x5_1 ++ [((Int.tmod (wrap64 (x10_8 + 1)) 2) == 1)]) := ⟨_, rfl⟩
           replace H : (gudgeonref01_add.l0 kj8 l0 l1 y584 (decide ((wrap64 (x10_8 + 1)) > 1)) (wrap64 (x7_1 + 1))) = some r := by first | (rw [hy584]; with_reducible exact H) | (have H2_ := (Option.bind_some _ _).symm.trans H; rw [hy584]; with_reducible exact H2_) | (have H2_ := (Option.bind_some _ _).symm.trans H; with_reducible exact H2_) | with_reducible exact H | (rw [hy584]; exact H) | exact H
           have Ny584 := Aside0.mk hy584
           clear hy584
           have H' := Aside0.mk H
           clear H
           go_wp2_with (first | ((with_reducible refine gate_builtin (b := .append) (xs := #[.tmp 41, .tmp 45]) rfl ?_); (try (refine gate_guard (by rfl) ?_; dsimp only)); at_builtin; refine Kd.R_append Kd.bool (w0 := w) w.heap.size rfl (.tmp 41) (.tmp 45) 49 4 (.bool false) 1 rfl Tryd.underlying49 info4 rfl (by decide) (by omega) u5 x5_1 ((Int.tmod (wrap64 (x10_8 + 1)) 2) == 1) [.bool ((Int.tmod (wrap64 (x10_8 + 1)) 2) == 1)] (fun _ => True) (fun _ => False) rfl rfl ?aP (fun _ hk => hk.elim) ?aF ?aO ?aB ?aS ?aL ?_; (case aP => exact rfl); (case aB => exact (by repeat first | exact HB.out | apply below_alloc | apply pw_below_drewN | apply below_drew1)); (case aF => exact (fun _ _ => trivial)); (case aO => exact HO_5.out); (case aS => exact (below_size (by repeat first | exact HB.out | apply below_alloc | apply pw_below_drewN | apply below_drew1))); (case aL => have := LMc15.out; omega); intro v585 w16 ho hb hg hat; rw [← Ny584.out] at ho; have n0_ := Aside0.mk (hb); have n1_ := Aside0.mk (ho); clear HB; clear HO_5; have HB := n0_; have HO586 := n1_; clear n0_ n1_; clear ho hb hg hat))
           go_roundg kj8
           case measure => have := HK1.out; have := HJ2.out; have := HJ8.out; omega
           case rel => exact ⟨(y584), (decide ((wrap64 (x10_8 + 1)) > 1)), (wrap64 (x7_1 + 1)), (by first | rfl | (simp; done) | (simp [*]; done) | (refine congrArg (Value.int _) ?_; omega) | (refine congrArg Value.bool ?_; generalize ByteArray.toList _ = z_; cases z_ <;> rfl)), (by first | rfl | (simp; done) | (simp [*]; done) | (refine congrArg (Value.int _) ?_; omega) | (refine congrArg Value.bool ?_; generalize ByteArray.toList _ = z_; cases z_ <;> rfl)), H', ⟨by have := HK1.out; have := HJ2.out; have := HJ8.out; omega⟩, ⟨by (with_reducible repeat (first | apply Kd.R_alloc | apply Kd.R_drewN | apply Kd.R_drew)); exact HO586.out⟩, ⟨by repeat first | exact HB.out | apply below_alloc | apply pw_below_drewN | apply below_drew1⟩⟩
          ·rw [if_neg c15] at H
           exact absurd H (by simp)
        ·replace c11 := Bool.eq_false_iff.mpr c11
         subst c11
         have H1 : (if x6_1 = true then (if x5_1.length < 140737488355328 then (gudgeonref01_add.l0 kj8 l0 l1 (x5_1 ++ [((Int.tmod (wrap64 (x10_8 + 1)) 2) == 1)]) (decide ((wrap64 (x10_8 + 1)) > 1)) (wrap64 (x7_1 + 1))) else (none)) else (if x5_1.length < 140737488355328 then (gudgeonref01_add.l0 kj8 l0 l1 (x5_1 ++ [((Int.tmod x10_8 2) == 1)]) (decide (x10_8 > 1)) (wrap64 (x7_1 + 1))) else (none))) = some r := by rw [if_neg (show ¬ (false = true) by decide)] at H; exact H
         clear H
         have H := H1
         clear H1
         by_cases c17 : x6_1 = true
         ·subst c17
          have H1 : (if x5_1.length < 140737488355328 then (gudgeonref01_add.l0 kj8 l0 l1 (x5_1 ++ [((Int.tmod (wrap64 (x10_8 + 1)) 2) == 1)]) (decide ((wrap64 (x10_8 + 1)) > 1)) (wrap64 (x7_1 + 1))) else (none)) = some r := by rw [if_pos rfl] at H; exact H
          clear H
          have H := H1
          clear H1
          by_cases c18 : x5_1.length < 140737488355328
          ·rw [if_pos c18] at H
           have LMc18 := Aside0.mk c18
           clear c18
           obtain ⟨y587, hy587⟩ : ∃ y_ : List Bool, y_ = (x5_1 ++ [((Int.tmod (wrap64 (x10_8 + 1)) 2) == 1)]) := ⟨_, rfl⟩
           replace H : (gudgeonref01_add.l0 kj8 l0 l1 y587 (decide ((wrap64 (x10_8 + 1)) > 1)) (wrap64 (x7_1 + 1))) = some r := by first | (rw [hy587]; with_reducible exact H) | (have H2_ := (Option.bind_some _ _).symm.trans H; rw [hy587]; with_reducible exact H2_) | (have H2_ := (Option.bind_some _ _).symm.trans H; with_reducible exact H2_) | with_reducible exact H | (rw [hy587]; exact H) | exact H
           have Ny587 := Aside0.mk hy587
           clear hy587
           have H' := Aside0.mk H
           clear H
           go_wp2_with (first | ((with_reducible refine gate_builtin (b := .append) (xs := #[.tmp 41, .tmp 45]) rfl ?_); (try (refine gate_guard (by rfl) ?_; dsimp only)); at_builtin; refine Kd.R_append Kd.bool (w0 := w) w.heap.size rfl (.tmp 41) (.tmp 45) 49 4 (.bool false) 1 rfl Tryd.underlying49 info4 rfl (by decide) (by omega) u5 x5_1 ((Int.tmod (wrap64 (x10_8 + 1)) 2) == 1) [.bool ((Int.tmod (wrap64 (x10_8 + 1)) 2) == 1)] (fun _ => True) (fun _ => False) rfl rfl ?aP (fun _ hk => hk.elim) ?aF ?aO ?aB ?aS ?aL ?_; (case aP => exact rfl); (case aB => exact (by repeat first | exact HB.out | apply below_alloc | apply pw_below_drewN | apply below_drew1)); (case aF => exact (fun _ _ => trivial)); (case aO => exact HO_5.out); (case aS => exact (below_size (by repeat first | exact HB.out | apply below_alloc | apply pw_below_drewN | apply below_drew1))); (case aL => have := LMc18.out; omega); intro v588 w19 ho hb hg hat; rw [← Ny587.out] at ho; have n0_ := Aside0.mk (hb); have n1_ := Aside0.mk (ho); clear HB; clear HO_5; have HB := n0_; have HO589 := n1_; clear n0_ n1_; clear ho hb hg hat))
           go_roundg kj8
           case measure => have := HK1.out; have := HJ2.out; have := HJ8.out; omega
           case rel => exact ⟨(y587), (decide ((wrap64 (x10_8 + 1)) > 1)), (wrap64 (x7_1 + 1)), (by first | rfl | (simp; done) | (simp [*]; done) | (refine congrArg (Value.int _) ?_; omega) | (refine congrArg Value.bool ?_; generalize ByteArray.toList _ = z_; cases z_ <;> rfl)), (by first | rfl | (simp; done) | (simp [*]; done) | (refine congrArg (Value.int _) ?_; omega) | (refine congrArg Value.bool ?_; generalize ByteArray.toList _ = z_; cases z_ <;> rfl)), H', ⟨by have := HK1.out; have := HJ2.out; have := HJ8.out; omega⟩, ⟨by (with_reducible repeat (first | apply Kd.R_alloc | apply Kd.R_drewN | apply Kd.R_drew)); exact HO589.out⟩, ⟨by repeat first | exact HB.out | apply below_alloc | apply pw_below_drewN | apply below_drew1⟩⟩
          ·rw [if_neg c18] at H
           exact absurd H (by simp)
         ·replace c17 := Bool.eq_false_iff.mpr c17
          subst c17
          have H1 : (if x5_1.length < 140737488355328 then (gudgeonref01_add.l0 kj8 l0 l1 (x5_1 ++ [((Int.tmod x10_8 2) == 1)]) (decide (x10_8 > 1)) (wrap64 (x7_1 + 1))) else (none)) = some r := by rw [if_neg (show ¬ (false = true) by decide)] at H; exact H
          clear H
          have H := H1
          clear H1
          by_cases c20 : x5_1.length < 140737488355328
          ·rw [if_pos c20] at H
           have LMc20 := Aside0.mk c20
           clear c20
           obtain ⟨y590, hy590⟩ : ∃ y_ : List Bool, y_ = (x5_1 ++ [((Int.tmod x10_8 2) == 1)]) := ⟨_, rfl⟩
           replace H : (gudgeonref01_add.l0 kj8 l0 l1 y590 (decide (x10_8 > 1)) (wrap64 (x7_1 + 1))) = some r := by first | (rw [hy590]; with_reducible exact H) | (have H2_ := (Option.bind_some _ _).symm.trans H; rw [hy590]; with_reducible exact H2_) | (have H2_ := (Option.bind_some _ _).symm.trans H; with_reducible exact H2_) | with_reducible exact H | (rw [hy590]; exact H) | exact H
           have Ny590 := Aside0.mk hy590
           clear hy590
           have H' := Aside0.mk H
           clear H
           go_wp2_with (first | ((with_reducible refine gate_builtin (b := .append) (xs := #[.tmp 41, .tmp 45]) rfl ?_); (try (refine gate_guard (by rfl) ?_; dsimp only)); at_builtin; refine Kd.R_append Kd.bool (w0 := w) w.heap.size rfl (.tmp 41) (.tmp 45) 49 4 (.bool false) 1 rfl Tryd.underlying49 info4 rfl (by decide) (by omega) u5 x5_1 ((Int.tmod x10_8 2) == 1) [.bool ((Int.tmod x10_8 2) == 1)] (fun _ => True) (fun _ => False) rfl rfl ?aP (fun _ hk => hk.elim) ?aF ?aO ?aB ?aS ?aL ?_; (case aP => exact rfl); (case aB => exact (by repeat first | exact HB.out | apply below_alloc | apply pw_below_drewN | apply below_drew1)); (case aF => exact (fun _ _ => trivial)); (case aO => exact HO_5.out); (case aS => exact (below_size (by repeat first | exact HB.out | apply below_alloc | apply pw_below_drewN | apply below_drew1))); (case aL => have := LMc20.out; omega); intro v591 w21 ho hb hg hat; rw [← Ny590.out] at ho; have n0_ := Aside0.mk (hb); have n1_ := Aside0.mk (ho); clear HB; clear HO_5; have HB := n0_; have HO592 := n1_; clear n0_ n1_; clear ho hb hg hat))
           go_roundg kj8
           case measure => have := HK1.out; have := HJ2.out; have := HJ8.out; omega
           case rel => exact ⟨(y590), (decide (x10_8 > 1)), (wrap64 (x7_1 + 1)), (by first | rfl | (simp; done) | (simp [*]; done) | (refine congrArg (Value.int _) ?_; omega) | (refine congrArg Value.bool ?_; generalize ByteArray.toList _ = z_; cases z_ <;> rfl)), (by first | rfl | (simp; done) | (simp [*]; done) | (refine congrArg (Value.int _) ?_; omega) | (refine congrArg Value.bool ?_; generalize ByteArray.toList _ = z_; cases z_ <;> rfl)), H', ⟨by have := HK1.out; have := HJ2.out; have := HJ8.out; omega⟩, ⟨by (with_reducible repeat (first | apply Kd.R_alloc | apply Kd.R_drewN | apply Kd.R_drew)); exact HO592.out⟩, ⟨by repeat first | exact HB.out | apply below_alloc | apply pw_below_drewN | apply below_drew1⟩⟩
          ·rw [if_neg c20] at H
           exact absurd H (by simp)
     ·replace c6 := Bool.eq_false_iff.mpr c6
      subst c6
      have H1 : ((gudgeonref01_trim.f kj2 x5_1).bind fun t576 => (some t576)) = some r := by rw [if_neg (show ¬ (false = true) by decide)] at H; exact H
      clear H
      have H := H1
      clear H1
      replace H := Option.bind_eq_some_iff.mp H
      obtain ⟨t576, A220, H⟩ := H
      replace H : (some t576) = some r := H
      have A22 := Aside0.mk A220
      clear A220
      obtain rfl := Option.some.inj H
      obtain ⟨Ao23, co23, eo23⟩ := Kd.R_slice HO_5.out
      subst eo23
      go_wp2_with (first | ((with_reducible refine gate_callee (f := 55) rfl ?_); refine goesL_ (some 50) rfl rfl Tryd.func55 (by kernel_rfl) rfl #[.slice Ao23 x5_1.length co23] rfl (by (try simp only [List.map_toArray, List.map_cons, List.map_nil]); first | done | rfl | (simp only [List.length_drop, List.length_take]; rfl)) ?_; (with_reducible refine (gudgeonref01_trim.calls kj2 _ _ x5_1 t576 _ ?side1 ?side2 A22.out).mono ?_); (case side1 => repeat (first | exact (Kd.R_reads' HO_5.out).2.2 | (with_reducible refine Kd.C_alloc ?_ _) | (with_reducible refine Kd.C_drewN ?_ _) | (with_reducible refine Kd.C_drew ?_))); (case side2 => exact (Kd.R_reads' HO_5.out).2.1); rintro e w24 ⟨v577, rfl, ho0, hb⟩; refine ⟨_, rfl, ?_⟩; have n0_ := Aside0.mk (Kd.R_elder' HO_5.out (Kd.R_base ho0) hb); have n1_ := Aside0.mk (Kd.R_lower (Kd.R_new' ho0 (Kd.R_lt HO_5.out)) (below_size (by repeat first | exact HB.out | apply below_alloc | apply pw_below_drewN | apply below_drew1))); have n2_ := Aside0.mk (below_step (by repeat first | exact HB.out | apply below_alloc | apply pw_below_drewN | apply below_drew1) hb); clear HO_5; clear HB; have HO_5 := n0_; have HO578 := n1_; have HB := n2_; clear n0_ n1_ n2_))
      go_ret
      exact ⟨_, by first | rfl | (simp [errW_none, errW_some] <;> rfl) | (simp [*, errW_none, errW_some] <;> rfl), by (with_reducible repeat (first | apply Kd.R_alloc | apply Kd.R_drewN | apply Kd.R_drew)); exact Kd.R_mono HO578.out (fun _ hk => trivial), by repeat first | exact HB.out | apply below_alloc | apply pw_below_drewN | apply below_drew1⟩

/-! ### gudgeonref01_mul: function 45 -/
def gudgeonref01_mul.l0 : Nat → List Bool → List Bool → List Bool → Int → Option (List Bool)
 | 0, _, _, _, _ => none
 | k + 1, x0, x1, x5, x6 => if x6 ≥ 0 then ((some (([false] : List Bool) : List Bool)).bind fun y593 => (if y593.length + x5.length < 140737488355328 then ((some (y593 ++ x5 : List Bool)).bind fun y596 => (if 0 ≤ x6 then (if x6 < (x0.length : Int) then (if rdOf false x0 x6 = true then ((gudgeonref01_add.f k y596 x1).bind fun t600 => (gudgeonref01_mul.l0 k x0 x1 t600 (wrap64 (x6 - 1)))) else (gudgeonref01_mul.l0 k x0 x1 y596 (wrap64 (x6 - 1)))) else (none)) else (none))) else (none))) else ((gudgeonref01_trim.f k x5).bind fun t603 => (some t603))
def gudgeonref01_mul.f (k : Nat) (l0 : List Bool) (l1 : List Bool) : Option (List Bool) := gudgeonref01_mul.l0 k l0 l1 ([] : List Bool) (wrap64 ((l0.length : Int) - 1))
theorem gudgeonref01_mul.mono_l : ∀ k, (∀ y0 y1 y2 y3, LeO (gudgeonref01_mul.l0 k y0 y1 y2 y3) (gudgeonref01_mul.l0 (k + 1) y0 y1 y2 y3))
 | 0 => fun _ _ _ _ r h => by simp [gudgeonref01_mul.l0] at h
 | k + 1 => by
  have ih0 := gudgeonref01_mul.mono_l k
  ·intro y0 y1 y2 y3
   unfold gudgeonref01_mul.l0
   repeat' first
   | (with_reducible exact ih0 _ _ _ _)
   | (with_reducible exact gudgeonref01_add.mono _ _ _)
   | (with_reducible exact gudgeonref01_trim.mono _ _)
   | (with_reducible exact LeO.refl _)
   | (with_reducible exact LeO.none _)
   | (with_reducible refine LeO.ite ?_ ?_)
   | (with_reducible refine LeO.bind ?_ (fun _ => ?_))
   | exact ih0 _ _ _ _
   | exact gudgeonref01_add.mono _ _ _
   | exact gudgeonref01_trim.mono _ _
   | exact LeO.none _
   | refine LeO.ite ?_ ?_
   | refine LeO.bind ?_ (fun _ => ?_)
theorem gudgeonref01_mul.mono : ∀ a0 a1 k, LeO (gudgeonref01_mul.f k a0 a1) (gudgeonref01_mul.f (k + 1) a0 a1) := by
 intro a0 a1 k
 have ih0 := gudgeonref01_mul.mono_l k
 unfold gudgeonref01_mul.f
 repeat' first
   | (with_reducible exact ih0 _ _ _ _)
   | (with_reducible exact gudgeonref01_add.mono _ _ _)
   | (with_reducible exact gudgeonref01_trim.mono _ _)
   | (with_reducible exact LeO.refl _)
   | (with_reducible exact LeO.none _)
   | (with_reducible refine LeO.ite ?_ ?_)
   | (with_reducible refine LeO.bind ?_ (fun _ => ?_))
   | exact ih0 _ _ _ _
   | exact gudgeonref01_add.mono _ _ _
   | exact gudgeonref01_trim.mono _ _
   | exact LeO.none _
   | refine LeO.ite ?_ ?_
   | refine LeO.bind ?_ (fun _ => ?_)
set_option maxHeartbeats 8000000 in
set_option maxRecDepth 100000 in
theorem gudgeonref01_mul.calls (k : Nat) (A0 : Option Addr) (c0 : Nat) (l0 : List Bool) (A1 : Option Addr) (c1 : Nat) (l1 : List Bool) (r : List Bool) (w : World) (hr0 : Kd.C Kd.bool w A0 l0.length l0) (hc0 : l0.length ≤ c0) (hr1 : Kd.C Kd.bool w A1 l1.length l1) (hc1 : l1.length ≤ c1) (h : gudgeonref01_mul.f k l0 l1 = some r) :
  Calls Tryd.prog 45 #[.slice A0 l0.length c0, .slice A1 l1.length c1] w fun e w' => ∃ v0_ : Value, e = .returned (v0_) ∧ Kd.R Kd.bool 4 w' w.heap.size (fun _ => True) v0_ r ∧ Below w.heap.size w w' := by
 have HR0 := Aside0.mk hr0
 have HC0 := Aside0.mk hc0
 clear hr0 hc0
 have HR1 := Aside0.mk hr1
 have HC1 := Aside0.mk hc1
 clear hr1 hc1
 have HB := Aside0.mk (Below.refl w.heap.size w)
 have H : (gudgeonref01_mul.l0 k l0 l1 ([] : List Bool) (wrap64 ((l0.length : Int) - 1))) = some r := h
 clear h
 have H' := Aside0.mk H
 clear H
 go_enter Tryd.func45, Tryd.ntmps45
 go_wp2
 go_loopg [5, 6] k (fun kq v5 v6 w' => ∃ (x5_1 : List Bool) (x6_1 : Int), v6 = .int .i64 x6_1 ∧ Aside0 (gudgeonref01_mul.l0 kq l0 l1 x5_1 x6_1 = some r) ∧ Aside0 (kq ≤ k) ∧ Aside0 (Kd.R Kd.bool 4 w' w.heap.size (fun _ => True) v5 x5_1) ∧ Aside0 (Below w.heap.size w w'))
 case atStart => exact ⟨(([] : List Bool)), (wrap64 ((l0.length : Int) - 1)), (by first | rfl | (simp; done) | (simp [*]; done) | (refine congrArg (Value.int _) ?_; omega) | (refine congrArg Value.bool ?_; generalize ByteArray.toList _ = z_; cases z_ <;> rfl)), H', ⟨Nat.le_refl _⟩, ⟨by first | exact Kd.R_nil _ _ _ _ _ | exact Kd.N_nil _ _ _ _ _ | exact Kd.V_nil _ _ _ _ _ | exact Kd.Q_nil _ _ _ _ _ | exact Kd.S_nil _ _ _ _ _⟩, ⟨by repeat first | exact HB.out | apply below_alloc | apply pw_below_drewN | apply below_drew1⟩⟩
 case round =>
  clear H'
  try clear c1
  try clear p2
  obtain ⟨x5_1, x6_1, rfl, HA, HK1, HO_5, HB⟩ := hrel
  cases gk with
  | zero => exact absurd HA.out (by simp [gudgeonref01_mul.l0])
  | succ k1 =>
   have H := HA.out
   clear HA
   simp only [gudgeonref01_mul.l0] at H
   by_cases c3 : x6_1 ≥ 0
   ·rw [if_pos c3] at H
    have c3b0 : decide (0 ≤ x6_1) = true := decide_eq_true c3
    clear c3
    obtain ⟨y593, hy593⟩ : ∃ y_ : List Bool, y_ = (([false] : List Bool)) := ⟨_, rfl⟩
    replace H : (if y593.length + x5_1.length < 140737488355328 then ((some (y593 ++ x5_1 : List Bool)).bind fun y596 => (if 0 ≤ x6_1 then (if x6_1 < (l0.length : Int) then (if rdOf false l0 x6_1 = true then ((gudgeonref01_add.f k1 y596 l1).bind fun t600 => (gudgeonref01_mul.l0 k1 l0 l1 t600 (wrap64 (x6_1 - 1)))) else (gudgeonref01_mul.l0 k1 l0 l1 y596 (wrap64 (x6_1 - 1)))) else (none)) else (none))) else (none)) = some r := by first | (rw [hy593]; with_reducible exact H) | (have H2_ := (Option.bind_some _ _).symm.trans H; rw [hy593]; with_reducible exact H2_) | (have H2_ := (Option.bind_some _ _).symm.trans H; with_reducible exact H2_) | with_reducible exact H | (rw [hy593]; exact H) | exact H
    have Ny593 := Aside0.mk hy593
    clear hy593
    by_cases c4 : y593.length + x5_1.length < 140737488355328
    ·rw [if_pos c4] at H
     have LMc4 := Aside0.mk c4
     clear c4
     obtain ⟨y596, hy596⟩ : ∃ y_ : List Bool, y_ = (y593 ++ x5_1) := ⟨_, rfl⟩
     replace H : (if 0 ≤ x6_1 then (if x6_1 < (l0.length : Int) then (if rdOf false l0 x6_1 = true then ((gudgeonref01_add.f k1 y596 l1).bind fun t600 => (gudgeonref01_mul.l0 k1 l0 l1 t600 (wrap64 (x6_1 - 1)))) else (gudgeonref01_mul.l0 k1 l0 l1 y596 (wrap64 (x6_1 - 1)))) else (none)) else (none)) = some r := by first | (rw [hy596]; with_reducible exact H) | (have H2_ := (Option.bind_some _ _).symm.trans H; rw [hy596]; with_reducible exact H2_) | (have H2_ := (Option.bind_some _ _).symm.trans H; with_reducible exact H2_) | with_reducible exact H | (rw [hy596]; exact H) | exact H
     have Ny596 := Aside0.mk hy596
     clear hy596
     by_cases c5 : 0 ≤ x6_1
     ·rw [if_pos c5] at H
      have c5b0 : decide (0 ≤ x6_1) = true := decide_eq_true c5
      clear c5
      by_cases c6 : x6_1 < (l0.length : Int)
      ·rw [if_pos c6] at H
       have c6b0 : decide (x6_1 < (l0.length : Int)) = true := decide_eq_true c6
       clear c6
       obtain ⟨bq7, hbq7⟩ : ∃ b_ : Bool, b_ = (rdOf false l0 x6_1) := ⟨_, rfl⟩
       replace H : (if bq7 = true then ((gudgeonref01_add.f k1 y596 l1).bind fun t600 => (gudgeonref01_mul.l0 k1 l0 l1 t600 (wrap64 (x6_1 - 1)))) else (gudgeonref01_mul.l0 k1 l0 l1 y596 (wrap64 (x6_1 - 1)))) = some r := by rw [← hbq7] at H; exact H
       have Nbq7 := Aside0.mk hbq7
       clear hbq7
       by_cases c8 : bq7 = true
       ·subst c8
        have H1 : ((gudgeonref01_add.f k1 y596 l1).bind fun t600 => (gudgeonref01_mul.l0 k1 l0 l1 t600 (wrap64 (x6_1 - 1)))) = some r := by rw [if_pos rfl] at H; exact H
        clear H
        have H := H1
        clear H1
        replace H := Option.bind_eq_some_iff.mp H
        obtain ⟨t600, A90, H⟩ := H
        replace H : (gudgeonref01_mul.l0 k1 l0 l1 t600 (wrap64 (x6_1 - 1))) = some r := H
        have A9 := Aside0.mk A90
        clear A90
        have H' := Aside0.mk H
        clear H
        go_wp2_with (first | ((with_reducible refine gate_dst (N := 14) rfl ?_); refine Kd.R_lit Kd.bool _ 4 ?hg (N := 14) ?hd (xs := ([false] : List Bool)) (inner := [.bool false]) (ok := fun _ => True) (okp := fun _ => True) ?hr ?hp (fun _ hk => hk) trivial (Below.refl _ _) (Nat.le_refl _) (by simp) ?_; (case hd => rfl); (case hg => rfl); (case hr => first | (go_simp; done) | (go_simp; rfl) | (go_simp; simp only [IntKind.wrap_u8, IntKind.wrap_u32]; congr 4; omega) | (go_simp; simp only [IntKind.wrap_u8, IntKind.wrap_u32]; congr 5; omega)); (case hp => exact (Reps.one (show Kd.M Kd.bool _ _ _ false [.bool false] from rfl) (Reps.none _ _))); intro v594 w10 ho11 hb hg_ hnew_; clear hg_ hnew_; (first | rw [← Ny593.out] at ho11 | (simp only [Int.reduceToNat] at ho11; rw [← Ny593.out] at ho11)); have n0_ := Aside0.mk (Kd.R_elder' HO_5.out (Kd.R_base ho11) hb); have n1_ := Aside0.mk (Kd.R_lower (Kd.R_new' ho11 (Kd.R_lt HO_5.out)) (below_size (by repeat first | exact HB.out | apply below_alloc | apply pw_below_drewN | apply below_drew1))); have n2_ := Aside0.mk (below_step (by repeat first | exact HB.out | apply below_alloc | apply pw_below_drewN | apply below_drew1) hb); clear HO_5; clear HB; have HO_5 := n0_; have HO595 := n1_; have HB := n2_; clear n0_ n1_ n2_; clear hb ho11; obtain ⟨Ao13, co13, eo13⟩ := Kd.R_slice HO_5.out; subst eo13) | ((with_reducible refine gate_builtin (b := .append) (xs := #[.tmp 14, .tmp 15]) rfl ?_); at_builtin; refine Kd.R_append_rows Kd.bool (w0 := w) w.heap.size rfl (.tmp 14) (.tmp 15) 49 4 (.bool false) 1 rfl Tryd.underlying49 info4 rfl (by decide) (by omega) v594 y593 x5_1 _ _ _ (fun k_ => some k_ ≠ (.slice Ao13 x5_1.length co13 : Value).ownBlock) (fun _ => False) rfl rfl ?aO ?aR (fun _ _ h => h) (fun _ h => h.elim) ?aF ?aB ?aS ?aL ?_; (case aR => repeat (first | exact (Kd.R_reads' HO_5.out).2.2 | (with_reducible refine Kd.C_alloc ?_ _) | (with_reducible refine Kd.C_drewN ?_ _) | (with_reducible refine Kd.C_drew ?_))); (case aB => exact (by repeat first | exact HB.out | apply below_alloc | apply pw_below_drewN | apply below_drew1)); (case aF => exact (fun k_ hk => Kd.fresh' (Kd.R_lt HO_5.out) k_ hk)); (case aO => exact (by (with_reducible repeat (first | apply Kd.R_alloc | apply Kd.R_drewN | apply Kd.R_drew)); exact Kd.R_mono HO595.out (fun _ hk => hk.2))); (case aS => exact (below_size (by repeat first | exact HB.out | apply below_alloc | apply pw_below_drewN | apply below_drew1))); (case aL => have := LMc4.out; omega); intro v597 w12 ho hb hg hat; rw [← Ny596.out] at ho; have n0_ := Aside0.mk (Kd.R_after (ok := (fun _ => True)) HO_5.out hg hat); have n1_ := Aside0.mk (hb); have n2_ := Aside0.mk (ho); clear HO_5; clear HB; clear HO595; have HO_5 := n0_; have HB := n1_; have HO598 := n2_; clear n0_ n1_ n2_; clear ho hb hg hat; have p599 : 0 ≤ (x6_1 : Int) := of_decide_eq_true (by first | (with_reducible assumption) | assumption); have q599 : x6_1 < (l0.length : Int) := of_decide_eq_true (by first | (with_reducible assumption) | assumption); obtain ⟨ad599, e599, hx599_0⟩ := Kd.at_bool HR0.out x6_1 p599 q599; (try rw [← Nbq7.out] at hx599_0); cases e599; replace hx599_0 := (HB.out.cell (World.block_lt_of_cell? w _ hx599_0)).trans hx599_0; replace p599 := eq_true p599; replace q599 := eq_true q599; obtain ⟨Ao14, co14, eo14⟩ := Kd.R_slice HO598.out; subst eo14) | ((with_reducible refine gate_callee (f := 44) rfl ?_); refine goesL_ (some 23) rfl rfl Tryd.func44 (by kernel_rfl) rfl #[.slice Ao14 y596.length co14, .slice A1 l1.length c1] rfl (by (try simp only [List.map_toArray, List.map_cons, List.map_nil]); first | done | rfl | (simp only [List.length_drop, List.length_take]; rfl)) ?_; (with_reducible refine (gudgeonref01_add.calls k1 _ _ y596 _ _ l1 t600 _ ?side1 ?side2 ?side3 ?side4 A9.out).mono ?_); (case side1 => repeat (first | exact (Kd.R_reads' HO598.out).2.2 | (with_reducible refine Kd.C_alloc ?_ _) | (with_reducible refine Kd.C_drewN ?_ _) | (with_reducible refine Kd.C_drew ?_))); (case side2 => exact (Kd.R_reads' HO598.out).2.1); (case side3 => repeat (first | exact (Kd.C_below HR1.out HB.out) | (with_reducible refine Kd.C_alloc ?_ _) | (with_reducible refine Kd.C_drewN ?_ _) | (with_reducible refine Kd.C_drew ?_))); (case side4 => exact HC1.out); rintro e w15 ⟨v601, rfl, ho0, hb⟩; refine ⟨_, rfl, ?_⟩; have n0_ := Aside0.mk (Kd.R_elder' HO_5.out (Kd.R_base ho0) hb); have n1_ := Aside0.mk (Kd.R_elder' HO598.out (Kd.R_base ho0) hb); have n2_ := Aside0.mk (Kd.R_lower (Kd.R_new' (Kd.R_new' ho0 (Kd.R_lt HO_5.out)) (Kd.R_lt HO598.out)) (below_size (by repeat first | exact HB.out | apply below_alloc | apply pw_below_drewN | apply below_drew1))); have n3_ := Aside0.mk (below_step (by repeat first | exact HB.out | apply below_alloc | apply pw_below_drewN | apply below_drew1) hb); clear HO_5; clear HO598; clear HB; have HO_5 := n0_; have HO598 := n1_; have HO602 := n2_; have HB := n3_; clear n0_ n1_ n2_ n3_))
        go_roundg k1
        case measure => have := HK1.out; omega
        case rel => exact ⟨(t600), (wrap64 (x6_1 - 1)), (by first | rfl | (simp; done) | (simp [*]; done) | (refine congrArg (Value.int _) ?_; omega) | (refine congrArg Value.bool ?_; generalize ByteArray.toList _ = z_; cases z_ <;> rfl)), H', ⟨by have := HK1.out; omega⟩, ⟨by (with_reducible repeat (first | apply Kd.R_alloc | apply Kd.R_drewN | apply Kd.R_drew)); exact Kd.R_mono HO602.out (fun _ hk => trivial)⟩, ⟨by repeat first | exact HB.out | apply below_alloc | apply pw_below_drewN | apply below_drew1⟩⟩
       ·replace c8 := Bool.eq_false_iff.mpr c8
        subst c8
        have H1 : (gudgeonref01_mul.l0 k1 l0 l1 y596 (wrap64 (x6_1 - 1))) = some r := by rw [if_neg (show ¬ (false = true) by decide)] at H; exact H
        clear H
        have H := H1
        clear H1
        have H' := Aside0.mk H
        clear H
        go_wp2_with (first | ((with_reducible refine gate_dst (N := 14) rfl ?_); refine Kd.R_lit Kd.bool _ 4 ?hg (N := 14) ?hd (xs := ([false] : List Bool)) (inner := [.bool false]) (ok := fun _ => True) (okp := fun _ => True) ?hr ?hp (fun _ hk => hk) trivial (Below.refl _ _) (Nat.le_refl _) (by simp) ?_; (case hd => rfl); (case hg => rfl); (case hr => first | (go_simp; done) | (go_simp; rfl) | (go_simp; simp only [IntKind.wrap_u8, IntKind.wrap_u32]; congr 4; omega) | (go_simp; simp only [IntKind.wrap_u8, IntKind.wrap_u32]; congr 5; omega)); (case hp => exact (Reps.one (show Kd.M Kd.bool _ _ _ false [.bool false] from rfl) (Reps.none _ _))); intro v594 w16 ho17 hb hg_ hnew_; clear hg_ hnew_; (first | rw [← Ny593.out] at ho17 | (simp only [Int.reduceToNat] at ho17; rw [← Ny593.out] at ho17)); have n0_ := Aside0.mk (Kd.R_elder' HO_5.out (Kd.R_base ho17) hb); have n1_ := Aside0.mk (Kd.R_lower (Kd.R_new' ho17 (Kd.R_lt HO_5.out)) (below_size (by repeat first | exact HB.out | apply below_alloc | apply pw_below_drewN | apply below_drew1))); have n2_ := Aside0.mk (below_step (by repeat first | exact HB.out | apply below_alloc | apply pw_below_drewN | apply below_drew1) hb); clear HO_5; clear HB; have HO_5 := n0_; have HO595 := n1_; have HB := n2_; clear n0_ n1_ n2_; clear hb ho17; obtain ⟨Ao19, co19, eo19⟩ := Kd.R_slice HO_5.out; subst eo19) | ((with_reducible refine gate_builtin (b := .append) (xs := #[.tmp 14, .tmp 15]) rfl ?_); at_builtin; refine Kd.R_append_rows Kd.bool (w0 := w) w.heap.size rfl (.tmp 14) (.tmp 15) 49 4 (.bool false) 1 rfl Tryd.underlying49 info4 rfl (by decide) (by omega) v594 y593 x5_1 _ _ _ (fun k_ => some k_ ≠ (.slice Ao19 x5_1.length co19 : Value).ownBlock) (fun _ => False) rfl rfl ?aO ?aR (fun _ _ h => h) (fun _ h => h.elim) ?aF ?aB ?aS ?aL ?_; (case aR => repeat (first | exact (Kd.R_reads' HO_5.out).2.2 | (with_reducible refine Kd.C_alloc ?_ _) | (with_reducible refine Kd.C_drewN ?_ _) | (with_reducible refine Kd.C_drew ?_))); (case aB => exact (by repeat first | exact HB.out | apply below_alloc | apply pw_below_drewN | apply below_drew1)); (case aF => exact (fun k_ hk => Kd.fresh' (Kd.R_lt HO_5.out) k_ hk)); (case aO => exact (by (with_reducible repeat (first | apply Kd.R_alloc | apply Kd.R_drewN | apply Kd.R_drew)); exact Kd.R_mono HO595.out (fun _ hk => hk.2))); (case aS => exact (below_size (by repeat first | exact HB.out | apply below_alloc | apply pw_below_drewN | apply below_drew1))); (case aL => have := LMc4.out; omega); intro v597 w18 ho hb hg hat; rw [← Ny596.out] at ho; have n0_ := Aside0.mk (Kd.R_after (ok := (fun _ => True)) HO_5.out hg hat); have n1_ := Aside0.mk (hb); have n2_ := Aside0.mk (ho); clear HO_5; clear HB; clear HO595; have HO_5 := n0_; have HB := n1_; have HO598 := n2_; clear n0_ n1_ n2_; clear ho hb hg hat; have p599 : 0 ≤ (x6_1 : Int) := of_decide_eq_true (by first | (with_reducible assumption) | assumption); have q599 : x6_1 < (l0.length : Int) := of_decide_eq_true (by first | (with_reducible assumption) | assumption); obtain ⟨ad599, e599, hx599_0⟩ := Kd.at_bool HR0.out x6_1 p599 q599; (try rw [← Nbq7.out] at hx599_0); cases e599; replace hx599_0 := (HB.out.cell (World.block_lt_of_cell? w _ hx599_0)).trans hx599_0; replace p599 := eq_true p599; replace q599 := eq_true q599))
        go_roundg k1
        case measure => have := HK1.out; omega
        case rel => exact ⟨(y596), (wrap64 (x6_1 - 1)), (by first | rfl | (simp; done) | (simp [*]; done) | (refine congrArg (Value.int _) ?_; omega) | (refine congrArg Value.bool ?_; generalize ByteArray.toList _ = z_; cases z_ <;> rfl)), H', ⟨by have := HK1.out; omega⟩, ⟨by (with_reducible repeat (first | apply Kd.R_alloc | apply Kd.R_drewN | apply Kd.R_drew)); exact Kd.R_mono HO598.out (fun _ hk => trivial)⟩, ⟨by repeat first | exact HB.out | apply below_alloc | apply pw_below_drewN | apply below_drew1⟩⟩
      ·rw [if_neg c6] at H
       exact absurd H (by simp)
     ·rw [if_neg c5] at H
      exact absurd H (by simp)
    ·rw [if_neg c4] at H
     exact absurd H (by simp)
   ·rw [if_neg c3] at H
    have c3b0 : decide (0 ≤ x6_1) = false := decide_eq_false c3
    clear c3
    replace H := Option.bind_eq_some_iff.mp H
    obtain ⟨t603, A200, H⟩ := H
    replace H : (some t603) = some r := H
    have A20 := Aside0.mk A200
    clear A200
    obtain rfl := Option.some.inj H
    obtain ⟨Ao21, co21, eo21⟩ := Kd.R_slice HO_5.out
    subst eo21
    go_wp2_with (first | ((with_reducible refine gate_callee (f := 55) rfl ?_); refine goesL_ (some 25) rfl rfl Tryd.func55 (by kernel_rfl) rfl #[.slice Ao21 x5_1.length co21] rfl (by (try simp only [List.map_toArray, List.map_cons, List.map_nil]); first | done | rfl | (simp only [List.length_drop, List.length_take]; rfl)) ?_; (with_reducible refine (gudgeonref01_trim.calls k1 _ _ x5_1 t603 _ ?side1 ?side2 A20.out).mono ?_); (case side1 => repeat (first | exact (Kd.R_reads' HO_5.out).2.2 | (with_reducible refine Kd.C_alloc ?_ _) | (with_reducible refine Kd.C_drewN ?_ _) | (with_reducible refine Kd.C_drew ?_))); (case side2 => exact (Kd.R_reads' HO_5.out).2.1); rintro e w22 ⟨v604, rfl, ho0, hb⟩; refine ⟨_, rfl, ?_⟩; have n0_ := Aside0.mk (Kd.R_elder' HO_5.out (Kd.R_base ho0) hb); have n1_ := Aside0.mk (Kd.R_lower (Kd.R_new' ho0 (Kd.R_lt HO_5.out)) (below_size (by repeat first | exact HB.out | apply below_alloc | apply pw_below_drewN | apply below_drew1))); have n2_ := Aside0.mk (below_step (by repeat first | exact HB.out | apply below_alloc | apply pw_below_drewN | apply below_drew1) hb); clear HO_5; clear HB; have HO_5 := n0_; have HO605 := n1_; have HB := n2_; clear n0_ n1_ n2_))
    go_ret
    exact ⟨_, by first | rfl | (simp [errW_none, errW_some] <;> rfl) | (simp [*, errW_none, errW_some] <;> rfl), by (with_reducible repeat (first | apply Kd.R_alloc | apply Kd.R_drewN | apply Kd.R_drew)); exact Kd.R_mono HO605.out (fun _ hk => trivial), by repeat first | exact HB.out | apply below_alloc | apply pw_below_drewN | apply below_drew1⟩

end Go.Proofs.YtlfpnohpcemkgaaDoor.PA
/- The reference's numbers by bits, the lowest one first: what its functions compute, as numbers. -/
namespace Go.Proofs.YtlfpnohpcemkgaaDoor.V
set_option linter.unusedVariables false
set_option linter.unusedSimpArgs false
open Go.RowKit Go.Proofs.YtlfpnohpcemkgaaDoor.PA Go.Proofs.YtlfpnohpcemkgaaDoor.H Go.Proofs.YtlfpnohpcemkgaaDoorW.PrintWords Go.Proofs.YtlfpnohpcemkgaaDoorW.PrintLast Go.Proofs.YtlfpnohpcemkgaaDoorW.PrintMore

def b2i (b : Bool) : Int := if b then 1 else 0
theorem b2i_rng (b : Bool) : 0 ≤ b2i b ∧ b2i b ≤ 1 := by cases b <;> simp [b2i]
/-- What bits are worth. -/
def bval : List Bool → Int
  | [] => 0
  | b :: r => b2i b + 2 * bval r
def p2 (n : Nat) : Int := 2 ^ n
theorem p2_zero : p2 0 = 1 := rfl
theorem p2_succ (n : Nat) : p2 (n + 1) = 2 * p2 n := by unfold p2; rw [Int.pow_succ]; omega
theorem p2_pos (n : Nat) : 0 < p2 n := by
  induction n with
  | zero => decide
  | succ n ih => rw [p2_succ]; omega
theorem p2_add (m n : Nat) : p2 (m + n) = p2 m * p2 n := by unfold p2; exact Int.pow_add ..
theorem p2_le {a b : Nat} (h : a ≤ b) : p2 a ≤ p2 b := by
  obtain ⟨d, rfl⟩ := Nat.exists_eq_add_of_le h
  rw [p2_add]
  have := p2_pos a
  have := p2_pos d
  calc p2 a = p2 a * 1 := by omega
    _ ≤ _ := Int.mul_le_mul_of_nonneg_left (by omega) (by omega)
theorem pw_p2 (n : Nat) : pw n = p2 (32 * n) := by unfold pw p2; rw [show (4294967296 : Int) = 2 ^ 32 from rfl, Int.pow_mul]
theorem bval_nonneg (l : List Bool) : 0 ≤ bval l := by
  induction l with
  | nil => simp [bval]
  | cons b l ih => have := b2i_rng b; simp only [bval]; omega
theorem bval_lt (l : List Bool) : bval l < p2 l.length := by
  induction l with
  | nil => simp [bval, p2_zero]
  | cons b l ih => have := b2i_rng b; simp only [bval, List.length_cons, p2_succ]; omega
theorem bval_append (a b : List Bool) : bval (a ++ b) = bval a + p2 a.length * bval b := by
  induction a with
  | nil => simp [bval, p2_zero]
  | cons x a ih => simp only [List.cons_append, bval, ih, List.length_cons, p2_succ]; grind
theorem bval_snoc (a : List Bool) (x : Bool) : bval (a ++ [x]) = bval a + p2 a.length * b2i x := by rw [bval_append]; simp [bval]
/-- A number's bits, without noughts behind. -/
def bitN (n : Nat) : List Bool := if h : n = 0 then [] else decide (n % 2 = 1) :: bitN (n / 2)
termination_by n
decreasing_by omega
def bits (n : Int) : List Bool := bitN n.toNat
theorem bits_zero : bits 0 = [] := by unfold bits; rw [bitN]; rfl
theorem bval_bitN (n : Nat) : bval (bitN n) = n := by
  induction n using Nat.strongRecOn with
  | _ n ih =>
    rw [bitN]
    split
    · rename_i h; simp [bval, h]
    · simp only [bval]; rw [ih _ (by omega)]
      by_cases h : n % 2 = 1
      · rw [decide_eq_true h]; simp only [b2i, if_true]; omega
      · rw [decide_eq_false h]; simp only [b2i, Bool.false_eq_true, if_false]; omega
theorem bval_bits {n : Int} (h : 0 ≤ n) : bval (bits n) = n := by unfold bits; rw [bval_bitN]; omega
theorem bits_cons (b : Bool) (n : Int) (hn : 0 ≤ n) (h : b2i b + 2 * n ≠ 0) : bits (b2i b + 2 * n) = b :: bits n := by
  have hb := b2i_rng b
  unfold bits
  rw [bitN, dif_neg (by omega)]
  have e1 : decide ((b2i b + 2 * n).toNat % 2 = 1) = b := by
    cases b
    · rw [decide_eq_false]; simp only [b2i, Bool.false_eq_true, if_false]; omega
    · rw [decide_eq_true]; simp only [b2i, if_true]; omega
  have e2 : (b2i b + 2 * n).toNat / 2 = n.toNat := by omega
  rw [e1, e2]
theorem bits_nil {n : Int} (h : 0 ≤ n) : bits n = [] ↔ n = 0 := by
  constructor
  · intro e
    have := bval_bits h
    rw [e] at this
    exact this.symm
  · rintro rfl; exact bits_zero
theorem bits_snoc_false (l : List Bool) : bits (bval (l ++ [false])) = bits (bval l) := by
  rw [bval_snoc]; simp [b2i]
theorem bits_last (l : List Bool) : bits (bval (l ++ [true])) = l ++ [true] := by
  induction l with
  | nil => have := bits_cons true 0 (by omega) (by decide); rw [bits_zero] at this; simpa [bval] using this
  | cons b l ih =>
    have h0 := bval_nonneg (l ++ [true])
    have h1 : 0 < bval (l ++ [true]) := by
      rw [bval_snoc]
      have := bval_nonneg l
      have := p2_pos l.length
      simp [b2i]; omega
    have hb := b2i_rng b
    simp only [List.cons_append, bval]
    rw [bits_cons b _ h0 (by omega), ih]
theorem bits_length_le {n : Int} {k : Nat} (h0 : 0 ≤ n) (h : n < p2 k) : (bits n).length ≤ k := by
  induction k generalizing n with
  | zero => rw [p2_zero] at h; rw [show n = 0 by omega, bits_zero]; simp
  | succ k ih =>
    rw [p2_succ] at h
    by_cases hn : n = 0
    · rw [hn, bits_zero]; simp
    · have e : n = b2i (decide (n % 2 = 1)) + 2 * (n / 2) := by
        by_cases h : n % 2 = 1
        · rw [decide_eq_true h]; simp only [b2i, if_true]; omega
        · rw [decide_eq_false h]; simp only [b2i, Bool.false_eq_true, if_false]; omega
      rw [e, bits_cons _ _ (by omega) (by omega)]
      have := ih (n := n / 2) (by omega) (by omega)
      simp; omega
theorem lt_of_bits_length {n : Int} {k : Nat} (h0 : 0 ≤ n) (h : (bits n).length ≤ k) : n < p2 k := by
  have := bval_lt (bits n)
  rw [bval_bits h0] at this
  have := p2_le h
  omega
theorem rdOf_D (l : List Bool) (i : Nat) : rdOf false l (i : Int) = l.getD i false := by simp [rdOf]
theorem bval_take_getD (l : List Bool) (i : Nat) : bval (l.take (i + 1)) = bval (l.take i) + p2 i * b2i (l.getD i false) := by
  by_cases h : i < l.length
  · rw [List.take_succ_eq_append_getElem h, bval_snoc, List.length_take, Nat.min_eq_left (Nat.le_of_lt h)]
    simp [h]
  · rw [List.take_of_length_le (by omega), List.take_of_length_le (by omega), List.getD_eq_getElem?_getD, List.getElem?_eq_none (by omega)]
    simp [b2i]
theorem bval_drop_getD (l : List Bool) (i : Nat) : bval (l.drop i) = b2i (l.getD i false) + 2 * bval (l.drop (i + 1)) := by
  by_cases h : i < l.length
  · rw [List.drop_eq_getElem_cons h]
    simp [bval, h]
  · rw [List.drop_eq_nil_of_le (by omega), List.drop_eq_nil_of_le (by omega), List.getD_eq_getElem?_getD, List.getElem?_eq_none (by omega)]
    simp [b2i, bval]
theorem bval_take_drop (l : List Bool) (i : Nat) (h : i ≤ l.length) : bval l = bval (l.take i) + p2 i * bval (l.drop i) := by
  have := bval_append (l.take i) (l.drop i)
  rwa [List.take_append_drop, List.length_take, Nat.min_eq_left h] at this
def LB (l : List Bool) : Prop := l.length ≤ 1000000000
theorem btrim_l0 (l : List Bool) (hn : l.length ≤ 2000000000) (d : Nat) (hd : d ≤ l.length) (he : bval l = bval (l.take d)) : Ev (fun k => gudgeonref01_trim.l0 k l (d : Int)) (bits (bval l)) := by
  induction d with
  | zero =>
    refine Ev.step (f := fun _ => some _) (fun k => ?_) (Ev.now _)
    simp only [gudgeonref01_trim.l0]
    rw [if_neg (by omega), if_pos (by omega), if_pos (by omega), if_pos (by simp), he]
    simp [bval, bits_zero]
  | succ d ih =>
    have hdl : d < l.length := by omega
    have e1 : l.take (d + 1) = l.take d ++ [l[d]] := List.take_succ_eq_append_getElem hdl
    have hg : l.getD d false = l[d] := by simp [hdl]
    cases hb : l[d] with
    | true =>
      refine Ev.step (f := fun _ => some _) (fun k => ?_) (Ev.now _)
      simp only [gudgeonref01_trim.l0]
      rw [if_pos (by omega), w64 (x := ((d + 1 : Nat) : Int) - 1) (by omega) (by omega), show ((d + 1 : Nat) : Int) - 1 = (d : Int) by omega, if_pos (by omega), if_pos (by omega), rdOf_D, hg, hb, if_pos rfl, if_pos (by omega), if_pos (by omega), if_pos (by simp; omega), he, Int.toNat_natCast, e1, hb, bits_last]
      rfl
    | false =>
      rw [e1, hb] at he
      have : bval (l.take d ++ [false]) = bval (l.take d) := by rw [bval_snoc]; simp [b2i]
      rw [this] at he
      refine Ev.step (fun k => ?_) (ih (by omega) he)
      simp only [gudgeonref01_trim.l0]
      rw [if_pos (by omega), w64 (x := ((d + 1 : Nat) : Int) - 1) (by omega) (by omega), show ((d + 1 : Nat) : Int) - 1 = (d : Int) by omega, if_pos (by omega), if_pos (by omega), rdOf_D, hg, hb, if_neg (by decide)]
theorem btrim_ev (l : List Bool) (hn : l.length ≤ 2000000000) : Ev (fun k => gudgeonref01_trim.f k l) (bits (bval l)) :=
  Ev.congr (fun k => rfl) (btrim_l0 l hn l.length (Nat.le_refl _) (by rw [List.take_of_length_le (Nat.le_refl _)]))
theorem Bits_l1 (l : List Int) (hL : Lim l) (hn : l.length < 10000000) (i : Nat) (hi : i < l.length) (r : List Bool)
    (hc : ∀ out, out.length = 32 * (i + 1) → bval out = val (l.take (i + 1)) → Ev (fun k => gudgeonref01_Bits.l0 k l out ((i + 1 : Nat) : Int)) r) (d : Nat) : ∀ (j : Nat) (out : List Bool) (x : Int), j + d = 32 → out.length = 32 * i + j → 0 ≤ x → x < p2 d → bval out + p2 (32 * i + j) * x = val (l.take (i + 1)) →
    Ev (fun k => gudgeonref01_Bits.l1 k l out (i : Int) x (j : Int)) r := by
  induction d with
  | zero =>
    intro j out x hj ho x0 x1 hv
    rw [p2_zero] at x1
    obtain rfl : x = 0 := by omega
    rw [Int.mul_zero, Int.add_zero] at hv
    refine Ev.step (fun k => ?_) (hc out (by omega) hv)
    simp only [gudgeonref01_Bits.l1]
    rw [if_neg (by omega), w64 (by omega) (by omega)]
    rfl
  | succ d ih =>
    intro j out x hj ho x0 x1 hv
    rw [p2_succ] at x1
    have hbit : ((Int.tmod x 2) == 1) = decide (x % 2 = 1) := by
      rw [Int.tmod_eq_emod_of_nonneg x0, Bool.eq_iff_iff]; simp
    have hx32 : x < 4294967296 := by
      have := p2_le (show d + 1 ≤ 32 by omega)
      rw [p2_succ] at this
      have e : p2 32 = 4294967296 := rfl
      omega
    refine Ev.step (fun k => ?_) (ih (j + 1) (out ++ [decide (x % 2 = 1)]) (x / 2) (by omega) (by simp; omega) (by omega) (by omega) ?_)
    · simp only [gudgeonref01_Bits.l1]
      rw [if_pos (by omega), if_pos (by omega), hbit, Int.tdiv_eq_ediv_of_nonneg x0, Int.emod_eq_of_lt (a := x / 2) (by omega) (by omega), w64 (by omega) (by omega)]
      rfl
    · rw [bval_snoc, ho, ← Nat.add_assoc, p2_succ, ← hv]
      have e : b2i (decide (x % 2 = 1)) = x % 2 := by
        by_cases h : x % 2 = 1
        · rw [decide_eq_true h, h]; rfl
        · rw [decide_eq_false h]; simp only [b2i, Bool.false_eq_true, if_false]; omega
      rw [e]
      have := Int.mul_ediv_add_emod x 2
      generalize x / 2 = q at *
      generalize x % 2 = r at *
      grind
theorem Bits_l0 (l : List Int) (hL : Lim l) (hn : l.length < 10000000) (d : Nat) : ∀ (i : Nat) (out : List Bool), i + d = l.length → out.length = 32 * i → bval out = val (l.take i) →
    Ev (fun k => gudgeonref01_Bits.l0 k l out (i : Int)) (bits (val l)) := by
  induction d with
  | zero =>
    intro i out hi ho hv
    rw [List.take_of_length_le (by omega)] at hv
    have := btrim_ev out (by omega)
    rw [hv] at this
    refine Ev.step (fun k => ?_) (Ev.bind (f := fun _ t => some t) this (Ev.now _))
    simp only [gudgeonref01_Bits.l0]
    rw [if_neg (by omega)]
  | succ d ih =>
    intro i out hi ho hv
    have hil : i < l.length := by omega
    have g := hL.get i hil
    refine Ev.step (fun k => ?_) (Bits_l1 l hL hn i hil _ (fun out' h1 h2 => ih (i + 1) out' (by omega) h1 h2) 32 0 out l[i] (by omega) (by omega) g.1 g.2 ?_)
    · simp only [gudgeonref01_Bits.l0]
      rw [if_pos (by omega), if_pos (by omega), rd_get _ _ hil]
      rfl
    · rw [Nat.add_zero, hv, val_take_succ _ _ hil, pw_p2]
theorem Bits_ev (l : List Int) (hL : Lim l) (hn : l.length < 10000000) : Ev (fun k => gudgeonref01_Bits.f k l) (bits (val l)) :=
  Ev.congr (fun k => rfl) (Bits_l0 l hL hn l.length 0 [] (by omega) rfl (by simp [val, bval]))
theorem at_ev (l : List Bool) (i : Nat) : gudgeonref01_at.f l (i : Int) = some (l.getD i false) := by
  unfold gudgeonref01_at.f
  by_cases h : i < l.length
  · rw [if_pos (by omega), if_pos (by omega), rdOf_D]
  · rw [if_neg (by omega), List.getD_eq_getElem?_getD, List.getElem?_eq_none (by omega)]; rfl
theorem bits_bound {n : Int} {k : Nat} (h0 : 0 ≤ n) (h : n < p2 k) (hk : k ≤ 1000000000) : LB (bits n) := Nat.le_trans (bits_length_le h0 h) hk
/-! ### order -/
theorem bcmp_l0 (a b : List Bool) (ha : LB a) (hb : LB b) (m : Nat) (hma : a.length ≤ m) (hmb : b.length ≤ m) (hm : m ≤ 1000000000) (d : Nat) (hd : d ≤ m) (he : bval (a.drop d) = bval (b.drop d)) : Ev (fun k => gudgeonref01_cmp.l0 k a b ((d : Int) - 1)) (cmpI (bval a) (bval b)) := by
  induction d with
  | zero =>
    simp only [List.drop_zero] at he
    refine Ev.step (f := fun _ => some _) (fun k => ?_) (Ev.now _)
    simp only [gudgeonref01_cmp.l0]
    rw [if_neg (by omega), he]
    unfold cmpI
    rw [if_neg (by omega), if_neg (by omega)]
  | succ d ih =>
    have e0 : ((d + 1 : Nat) : Int) - 1 = (d : Int) := by omega
    have da := bval_drop_getD a d
    have db := bval_drop_getD b d
    have sa : bval a = bval (a.take d) + p2 d * bval (a.drop d) := by
      by_cases h : d ≤ a.length
      · exact bval_take_drop a d h
      · rw [List.take_of_length_le (by omega), List.drop_eq_nil_of_le (by omega)]; simp [bval]
    have sb : bval b = bval (b.take d) + p2 d * bval (b.drop d) := by
      by_cases h : d ≤ b.length
      · exact bval_take_drop b d h
      · rw [List.take_of_length_le (by omega), List.drop_eq_nil_of_le (by omega)]; simp [bval]
    have ta0 := bval_nonneg (a.take d)
    have tb0 := bval_nonneg (b.take d)
    have ta1 : bval (a.take d) < p2 d := by have := bval_lt (a.take d); have := p2_le (show (a.take d).length ≤ d by rw [List.length_take]; omega); omega
    have tb1 : bval (b.take d) < p2 d := by have := bval_lt (b.take d); have := p2_le (show (b.take d).length ≤ d by rw [List.length_take]; omega); omega
    have hp := p2_pos d
    rw [e0]
    cases hx : a.getD d false with
    | true =>
      cases hy : b.getD d false with
      | true =>
        refine Ev.step (f := fun k => gudgeonref01_cmp.j2 k a b (d : Int) true true false) (fun k => ?_) (Ev.step (fun k => ?_) (ih (by omega) (by rw [da, db, hx, hy, he])))
        · simp only [gudgeonref01_cmp.l0]
          rw [if_pos (by omega), at_ev, at_ev, hx, hy]
          simp only [Option.bind_some]
          rw [if_neg (by decide)]
        · simp only [gudgeonref01_cmp.j2]
          rw [if_neg (by decide), if_neg (by decide), w64 (by omega) (by omega)]
      | false =>
        refine Ev.step (f := fun k => gudgeonref01_cmp.j2 k a b (d : Int) true false true) (fun k => ?_) (Ev.step (f := fun _ => some _) (fun k => ?_) (Ev.now _))
        · simp only [gudgeonref01_cmp.l0]
          rw [if_pos (by omega), at_ev, at_ev, hx, hy]
          simp only [Option.bind_some]
          rw [if_pos (by decide)]
        · simp only [gudgeonref01_cmp.j2]
          rw [if_pos trivial]
          rw [hx] at da
          rw [hy] at db
          simp only [b2i, if_true, Bool.false_eq_true, if_false] at da db
          have : bval (a.drop d) = bval (b.drop d) + 1 := by omega
          rw [this, Int.mul_add, Int.mul_one] at sa
          unfold cmpI
          rw [if_neg (by omega), if_pos (by omega)]
    | false =>
      cases hy : b.getD d false with
      | true =>
        refine Ev.step (f := fun k => gudgeonref01_cmp.j2 k a b (d : Int) false true false) (fun k => ?_) (Ev.step (f := fun _ => some _) (fun k => ?_) (Ev.now _))
        · simp only [gudgeonref01_cmp.l0]
          rw [if_pos (by omega), at_ev, at_ev, hx, hy]
          simp only [Option.bind_some]
          rw [if_pos (by decide)]
        · simp only [gudgeonref01_cmp.j2]
          rw [if_neg (by decide), if_pos (by decide)]
          rw [hx] at da
          rw [hy] at db
          simp only [b2i, if_true, Bool.false_eq_true, if_false] at da db
          have : bval (b.drop d) = bval (a.drop d) + 1 := by omega
          rw [this, Int.mul_add, Int.mul_one] at sb
          unfold cmpI
          rw [if_pos (by omega)]
      | false =>
        refine Ev.step (f := fun k => gudgeonref01_cmp.j2 k a b (d : Int) false false false) (fun k => ?_) (Ev.step (fun k => ?_) (ih (by omega) (by rw [da, db, hx, hy, he])))
        · simp only [gudgeonref01_cmp.l0]
          rw [if_pos (by omega), at_ev, at_ev, hx, hy]
          simp only [Option.bind_some]
          rw [if_neg (by decide)]
        · simp only [gudgeonref01_cmp.j2]
          rw [if_neg (by decide), if_neg (by decide), w64 (by omega) (by omega)]
theorem bcmp_ev (a b : List Bool) (ha : LB a) (hb : LB b) : Ev (fun k => gudgeonref01_cmp.f k a b) (cmpI (bval a) (bval b)) := by
  have ha' := ha
  have hb' := hb
  unfold LB at ha' hb'
  by_cases h : b.length > a.length
  · refine Ev.congr (fun k => ?_) (Ev.step (g := fun k => gudgeonref01_cmp.j0 k a b (b.length : Int)) (fun k => ?_) (bcmp_l0 a b ha hb b.length (by omega) (Nat.le_refl _) hb' b.length (Nat.le_refl _) (by rw [List.drop_eq_nil_of_le (by omega), List.drop_eq_nil_of_le (by omega)])))
    · unfold gudgeonref01_cmp.f
      rw [if_pos (by omega)]
    · simp only [gudgeonref01_cmp.j0]
      rw [w64 (by omega) (by omega)]
  · refine Ev.congr (fun k => ?_) (Ev.step (g := fun k => gudgeonref01_cmp.j0 k a b (a.length : Int)) (fun k => ?_) (bcmp_l0 a b ha hb a.length (Nat.le_refl _) (by omega) ha' a.length (Nat.le_refl _) (by rw [List.drop_eq_nil_of_le (by omega), List.drop_eq_nil_of_le (by omega)])))
    · unfold gudgeonref01_cmp.f
      rw [if_neg (by omega)]
    · simp only [gudgeonref01_cmp.j0]
      rw [w64 (by omega) (by omega)]
/-! ### sums -/
theorem step_badd {V P c A B x y q r : Int} (h : V + P * c = A + B) (e : r + 2 * q = c + (x + y)) : V + P * r + (2 * P) * q = A + P * x + (B + P * y) := by grind
theorem badd_j2 (a b : List Bool) (out : List Bool) (c x y : Bool) (i : Nat) (n : Int) (hn : n = b2i x) (ho : out.length ≤ 2000000000) (hi : i ≤ 2000000000) (r : List Bool)
    (h : Ev (fun k => gudgeonref01_add.l0 k a b (out ++ [decide ((b2i x + b2i y + b2i c) % 2 = 1)]) (decide (b2i x + b2i y + b2i c > 1)) ((i + 1 : Nat) : Int)) r) : Ev (fun k => gudgeonref01_add.j2 k a b out c (i : Int) y n) r := by
  subst hn
  refine Ev.step (fun k => ?_) h
  simp only [gudgeonref01_add.j2]
  cases x <;> cases y <;> cases c <;> simp only [b2i, if_true, Bool.false_eq_true, if_false] <;> rw [if_pos (by omega), w64 (x := (i : Int) + 1) (by omega) (by omega)] <;> simp [w01, w11, w21]
theorem badd_l0 (a b : List Bool) (ha : LB a) (hb : LB b) (d : Nat) : ∀ (i : Nat) (out : List Bool) (c : Bool), i + d = max a.length b.length + 2 → out.length = i → bval out + p2 i * b2i c = bval (a.take i) + bval (b.take i) → (i = max a.length b.length + 1 → c = false) →
    i ≤ max a.length b.length + 1 → Ev (fun k => gudgeonref01_add.l0 k a b out c (i : Int)) (bits (bval a + bval b)) := by
  unfold LB at ha hb
  induction d with
  | zero => intro i out c hi; omega
  | succ d ih =>
    intro i out c hi ho hv hend hle
    have hta : bval (a.take (i + 1)) = _ := bval_take_getD a i
    have htb : bval (b.take (i + 1)) = _ := bval_take_getD b i
    have hgo : (a.length > i ∨ b.length > i ∨ c = true) → Ev (fun k => gudgeonref01_add.j1 k a b out c (i : Int) true) (bits (bval a + bval b)) := by
      intro hor
      have hile : i ≤ max a.length b.length := by
        by_cases h : i = max a.length b.length + 1
        · have := hend h
          subst this
          simp at hor
          omega
        · omega
      have hnext := ih (i + 1) (out ++ [decide ((b2i (a.getD i false) + b2i (b.getD i false) + b2i c) % 2 = 1)]) (decide (b2i (a.getD i false) + b2i (b.getD i false) + b2i c > 1)) (by omega) (by simp [ho]) (by
        rw [bval_snoc, ho, p2_succ, hta, htb]
        apply step_badd hv
        cases a.getD i false <;> cases b.getD i false <;> cases c <;> rfl) (by
        intro hmax
        have e1 : i = max a.length b.length := by omega
        have hxa : a.getD i false = false := by rw [List.getD_eq_getElem?_getD, List.getElem?_eq_none (by omega)]; rfl
        have hxb : b.getD i false = false := by rw [List.getD_eq_getElem?_getD, List.getElem?_eq_none (by omega)]; rfl
        rw [hxa, hxb]
        cases c <;> rfl) (by omega)
      refine Ev.step (f := fun k => gudgeonref01_add.j2 k a b out c (i : Int) (b.getD i false) (b2i (a.getD i false))) (fun k => ?_) (badd_j2 a b out c (a.getD i false) (b.getD i false) i _ rfl (by omega) (by omega) _ hnext)
      simp only [gudgeonref01_add.j1, if_true]
      rw [at_ev, at_ev]
      simp only [Option.bind_some]
      cases a.getD i false
      · rw [if_neg (by decide)]; rfl
      · rw [if_pos rfl]; rfl
    by_cases h1 : i < a.length
    · refine Ev.step (fun k => ?_) (hgo (.inl h1))
      simp only [gudgeonref01_add.l0]
      rw [if_pos (by omega)]
    by_cases h2 : i < b.length
    · refine Ev.step (fun k => ?_) (hgo (.inr (.inl h2)))
      simp only [gudgeonref01_add.l0]
      rw [if_neg (by omega), if_pos (by omega)]
    cases c with
    | true =>
      refine Ev.step (fun k => ?_) (hgo (.inr (.inr rfl)))
      simp only [gudgeonref01_add.l0]
      rw [if_neg (by omega), if_neg (by omega)]
    | false =>
      have ht := btrim_ev out (by omega)
      rw [List.take_of_length_le (by omega), List.take_of_length_le (by omega)] at hv
      simp only [b2i, Bool.false_eq_true, if_false, Int.mul_zero, Int.add_zero] at hv
      rw [hv] at ht
      refine Ev.step (f := fun k => gudgeonref01_add.j1 k a b out false (i : Int) false) (fun k => ?_) (Ev.step (fun k => ?_) (Ev.bind (f := fun _ t => some t) ht (Ev.now _)))
      · simp only [gudgeonref01_add.l0]
        rw [if_neg (by omega), if_neg (by omega)]
      · simp only [gudgeonref01_add.j1]
        rw [if_neg (by decide)]
theorem badd_ev (a b : List Bool) (ha : LB a) (hb : LB b) : Ev (fun k => gudgeonref01_add.f k a b) (bits (bval a + bval b)) :=
  Ev.congr (fun k => rfl) (badd_l0 a b ha hb (max a.length b.length + 2) 0 [] false (by omega) rfl (by simp [bval, b2i]) (fun _ => rfl) (by omega))
end Go.Proofs.YtlfpnohpcemkgaaDoor.V
/- Written by a program of this session, wip/tools/patch_print.py, over the kit's print of the loaded functions. -/
namespace Go.Proofs.YtlfpnohpcemkgaaDoor.H
end Go.Proofs.YtlfpnohpcemkgaaDoor.H
namespace Go.Proofs.YtlfpnohpcemkgaaDoor.PA
open Go.RowKit Go.Proofs.YtlfpnohpcemkgaaDoorW.PrintWords Go.Proofs.YtlfpnohpcemkgaaDoorW.PrintLast Go.Proofs.YtlfpnohpcemkgaaDoorW.PrintMore Go.Proofs.YtlfpnohpcemkgaaDoor.H
attribute [local go_sem] max2_int min2_int max_two min_two max_three min_three max_four min_four   -- for this text's walks alone
set_option linter.unusedVariables false
set_option linter.unusedSimpArgs false

/-! ### gudgeonref01_Add: function 27 -/
def gudgeonref01_Add.f (k : Nat) (l0 : List Int) (l1 : List Int) : Option (List Int) := (gudgeonref01_Bits.f k l0).bind fun t649 => ((gudgeonref01_Bits.f k l1).bind fun t652 => ((gudgeonref01_add.f k t649 t652).bind fun t655 => ((gudgeonref01_Limbs.f k t655).bind fun t658 => (some t658))))
theorem gudgeonref01_Add.mono : ∀ a0 a1 k, LeO (gudgeonref01_Add.f k a0 a1) (gudgeonref01_Add.f (k + 1) a0 a1) := by
 intro a0 a1 k
 unfold gudgeonref01_Add.f
 repeat' first
   | (with_reducible exact gudgeonref01_Bits.mono _ _)
   | (with_reducible exact gudgeonref01_Limbs.mono _ _)
   | (with_reducible exact gudgeonref01_add.mono _ _ _)
   | (with_reducible exact LeO.refl _)
   | (with_reducible exact LeO.none _)
   | (with_reducible refine LeO.ite ?_ ?_)
   | (with_reducible refine LeO.bind ?_ (fun _ => ?_))
   | exact gudgeonref01_Bits.mono _ _
   | exact gudgeonref01_Limbs.mono _ _
   | exact gudgeonref01_add.mono _ _ _
   | exact LeO.none _
   | refine LeO.ite ?_ ?_
   | refine LeO.bind ?_ (fun _ => ?_)
set_option maxHeartbeats 8000000 in
set_option maxRecDepth 100000 in
theorem gudgeonref01_Add.calls (k : Nat) (A0 : Option Addr) (c0 : Nat) (l0 : List Int) (A1 : Option Addr) (c1 : Nat) (l1 : List Int) (r : List Int) (w : World) (hr0 : Kd.C (Kd.int .u32) w A0 l0.length l0) (hc0 : l0.length ≤ c0) (hr1 : Kd.C (Kd.int .u32) w A1 l1.length l1) (hc1 : l1.length ≤ c1) (h : gudgeonref01_Add.f k l0 l1 = some r) :
  Calls Tryd.prog 27 #[.slice A0 l0.length c0, .slice A1 l1.length c1] w fun e w' => ∃ v0_ : Value, e = .returned (v0_) ∧ Kd.R (Kd.int .u32) 43 w' w.heap.size (fun _ => True) v0_ r ∧ Below w.heap.size w w' := by
 have HR0 := Aside0.mk hr0
 have HC0 := Aside0.mk hc0
 clear hr0 hc0
 have HR1 := Aside0.mk hr1
 have HC1 := Aside0.mk hc1
 clear hr1 hc1
 have HB := Aside0.mk (Below.refl w.heap.size w)
 have H : ((gudgeonref01_Bits.f k l0).bind fun t649 => ((gudgeonref01_Bits.f k l1).bind fun t652 => ((gudgeonref01_add.f k t649 t652).bind fun t655 => ((gudgeonref01_Limbs.f k t655).bind fun t658 => (some t658))))) = some r := h
 clear h
 replace H := Option.bind_eq_some_iff.mp H
 obtain ⟨t649, A30, H⟩ := H
 replace H : ((gudgeonref01_Bits.f k l1).bind fun t652 => ((gudgeonref01_add.f k t649 t652).bind fun t655 => ((gudgeonref01_Limbs.f k t655).bind fun t658 => (some t658)))) = some r := H
 have A3 := Aside0.mk A30
 clear A30
 replace H := Option.bind_eq_some_iff.mp H
 obtain ⟨t652, A40, H⟩ := H
 replace H : ((gudgeonref01_add.f k t649 t652).bind fun t655 => ((gudgeonref01_Limbs.f k t655).bind fun t658 => (some t658))) = some r := H
 have A4 := Aside0.mk A40
 clear A40
 replace H := Option.bind_eq_some_iff.mp H
 obtain ⟨t655, A50, H⟩ := H
 replace H : ((gudgeonref01_Limbs.f k t655).bind fun t658 => (some t658)) = some r := H
 have A5 := Aside0.mk A50
 clear A50
 replace H := Option.bind_eq_some_iff.mp H
 obtain ⟨t658, A60, H⟩ := H
 replace H : (some t658) = some r := H
 have A6 := Aside0.mk A60
 clear A60
 obtain rfl := Option.some.inj H
 go_enter Tryd.func27, Tryd.ntmps27
 go_wp2_with (first | ((with_reducible refine gate_callee (f := 41) rfl ?_); refine goesL_ (some 6) rfl rfl Tryd.func41 (by kernel_rfl) rfl #[.slice A0 l0.length c0] rfl (by (try simp only [List.map_toArray, List.map_cons, List.map_nil]); first | done | rfl | (simp only [List.length_drop, List.length_take]; rfl)) ?_; (with_reducible refine (gudgeonref01_Bits.calls k _ _ l0 t649 _ ?side1 ?side2 A3.out).mono ?_); (case side1 => repeat (first | exact HR0.out | (with_reducible refine Kd.C_alloc ?_ _) | (with_reducible refine Kd.C_drewN ?_ _) | (with_reducible refine Kd.C_drew ?_))); (case side2 => exact HC0.out); rintro e w7 ⟨v650, rfl, ho0, hb⟩; refine ⟨_, rfl, ?_⟩; have n0_ := Aside0.mk (Kd.R_lower ho0 (below_size (by repeat (first | (with_reducible first | exact HB.out | apply below_alloc | apply pw_below_drewN | apply below_drew1) | exact HB.out)))); have n1_ := Aside0.mk (below_step (by repeat (first | (with_reducible first | exact HB.out | apply below_alloc | apply pw_below_drewN | apply below_drew1) | exact HB.out)) hb); clear HB; have HO651 := n0_; have HB := n1_; clear n0_ n1_; (try clear hb); (try clear hb2); (try clear hk); (try clear hi); (try clear ho0)) | ((with_reducible refine gate_callee (f := 41) rfl ?_); refine goesL_ (some 8) rfl rfl Tryd.func41 (by kernel_rfl) rfl #[.slice A1 l1.length c1] rfl (by (try simp only [List.map_toArray, List.map_cons, List.map_nil]); first | done | rfl | (simp only [List.length_drop, List.length_take]; rfl)) ?_; (with_reducible refine (gudgeonref01_Bits.calls k _ _ l1 t652 _ ?side1 ?side2 A4.out).mono ?_); (case side1 => repeat (first | exact (Kd.C_below HR1.out HB.out) | (with_reducible refine Kd.C_alloc ?_ _) | (with_reducible refine Kd.C_drewN ?_ _) | (with_reducible refine Kd.C_drew ?_))); (case side2 => exact HC1.out); rintro e w8 ⟨v653, rfl, ho0, hb⟩; refine ⟨_, rfl, ?_⟩; have n0_ := Aside0.mk (Kd.R_elder' (by (with_reducible repeat (first | apply Kd.R_alloc | apply Kd.R_drewN | apply Kd.R_drew)); exact HO651.out) (Kd.R_base ho0) hb); have n1_ := Aside0.mk (Kd.R_lower (Kd.R_new' ho0 (Kd.R_lt (by (with_reducible repeat (first | apply Kd.R_alloc | apply Kd.R_drewN | apply Kd.R_drew)); exact HO651.out))) (below_size (by repeat (first | (with_reducible first | exact HB.out | apply below_alloc | apply pw_below_drewN | apply below_drew1) | exact HB.out)))); have n2_ := Aside0.mk (below_step (by repeat (first | (with_reducible first | exact HB.out | apply below_alloc | apply pw_below_drewN | apply below_drew1) | exact HB.out)) hb); clear HO651; clear HB; have HO651 := n0_; have HO654 := n1_; have HB := n2_; clear n0_ n1_ n2_; (try clear hb); (try clear hb2); (try clear hk); (try clear hi); (try clear ho0); obtain ⟨Ao9, co9, eo9⟩ := Kd.R_slice HO651.out; subst eo9; obtain ⟨Ao10, co10, eo10⟩ := Kd.R_slice HO654.out; subst eo10) | ((with_reducible refine gate_callee (f := 44) rfl ?_); refine goesL_ (some 9) rfl rfl Tryd.func44 (by kernel_rfl) rfl #[.slice Ao9 t649.length co9, .slice Ao10 t652.length co10] rfl (by (try simp only [List.map_toArray, List.map_cons, List.map_nil]); first | done | rfl | (simp only [List.length_drop, List.length_take]; rfl)) ?_; (with_reducible refine (gudgeonref01_add.calls k _ _ t649 _ _ t652 t655 _ ?side1 ?side2 ?side3 ?side4 A5.out).mono ?_); (case side1 => repeat (first | exact (Kd.R_reads' HO651.out).2.2 | (with_reducible refine Kd.C_alloc ?_ _) | (with_reducible refine Kd.C_drewN ?_ _) | (with_reducible refine Kd.C_drew ?_))); (case side2 => exact (Kd.R_reads' HO651.out).2.1); (case side3 => repeat (first | exact (Kd.R_reads' HO654.out).2.2 | (with_reducible refine Kd.C_alloc ?_ _) | (with_reducible refine Kd.C_drewN ?_ _) | (with_reducible refine Kd.C_drew ?_))); (case side4 => exact (Kd.R_reads' HO654.out).2.1); rintro e w11 ⟨v656, rfl, ho0, hb⟩; refine ⟨_, rfl, ?_⟩; have n0_ := Aside0.mk (Kd.R_elder' (by (with_reducible repeat (first | apply Kd.R_alloc | apply Kd.R_drewN | apply Kd.R_drew)); exact HO651.out) (Kd.R_base ho0) hb); have n1_ := Aside0.mk (Kd.R_elder' (by (with_reducible repeat (first | apply Kd.R_alloc | apply Kd.R_drewN | apply Kd.R_drew)); exact HO654.out) (Kd.R_base ho0) hb); have n2_ := Aside0.mk (Kd.R_lower (Kd.R_new' (Kd.R_new' ho0 (Kd.R_lt (by (with_reducible repeat (first | apply Kd.R_alloc | apply Kd.R_drewN | apply Kd.R_drew)); exact HO651.out))) (Kd.R_lt (by (with_reducible repeat (first | apply Kd.R_alloc | apply Kd.R_drewN | apply Kd.R_drew)); exact HO654.out))) (below_size (by repeat (first | (with_reducible first | exact HB.out | apply below_alloc | apply pw_below_drewN | apply below_drew1) | exact HB.out)))); have n3_ := Aside0.mk (below_step (by repeat (first | (with_reducible first | exact HB.out | apply below_alloc | apply pw_below_drewN | apply below_drew1) | exact HB.out)) hb); clear HO651; clear HO654; clear HB; have HO651 := n0_; have HO654 := n1_; have HO657 := n2_; have HB := n3_; clear n0_ n1_ n2_ n3_; (try clear hb); (try clear hb2); (try clear hk); (try clear hi); (try clear ho0); obtain ⟨Ao12, co12, eo12⟩ := Kd.R_slice HO657.out; subst eo12) | ((with_reducible refine gate_callee (f := 43) rfl ?_); refine goesL_ (some 10) rfl rfl Tryd.func43 (by kernel_rfl) rfl #[.slice Ao12 t655.length co12] rfl (by (try simp only [List.map_toArray, List.map_cons, List.map_nil]); first | done | rfl | (simp only [List.length_drop, List.length_take]; rfl)) ?_; (with_reducible refine (gudgeonref01_Limbs.calls k _ _ t655 t658 _ ?side1 ?side2 A6.out).mono ?_); (case side1 => repeat (first | exact (Kd.R_reads' HO657.out).2.2 | (with_reducible refine Kd.C_alloc ?_ _) | (with_reducible refine Kd.C_drewN ?_ _) | (with_reducible refine Kd.C_drew ?_))); (case side2 => exact (Kd.R_reads' HO657.out).2.1); rintro e w13 ⟨v659, rfl, ho0, hb⟩; refine ⟨_, rfl, ?_⟩; have n0_ := Aside0.mk (Kd.R_below (by (with_reducible repeat (first | apply Kd.R_alloc | apply Kd.R_drewN | apply Kd.R_drew)); exact HO651.out) hb); have n1_ := Aside0.mk (Kd.R_below (by (with_reducible repeat (first | apply Kd.R_alloc | apply Kd.R_drewN | apply Kd.R_drew)); exact HO654.out) hb); have n2_ := Aside0.mk (Kd.R_below (by (with_reducible repeat (first | apply Kd.R_alloc | apply Kd.R_drewN | apply Kd.R_drew)); exact HO657.out) hb); have n3_ := Aside0.mk (Kd.R_lower ho0 (below_size (by repeat (first | (with_reducible first | exact HB.out | apply below_alloc | apply pw_below_drewN | apply below_drew1) | exact HB.out)))); have n4_ := Aside0.mk (below_step (by repeat (first | (with_reducible first | exact HB.out | apply below_alloc | apply pw_below_drewN | apply below_drew1) | exact HB.out)) hb); clear HO651; clear HO654; clear HO657; clear HB; have HO651 := n0_; have HO654 := n1_; have HO657 := n2_; have HO660 := n3_; have HB := n4_; clear n0_ n1_ n2_ n3_ n4_; (try clear hb); (try clear hb2); (try clear hk); (try clear hi); (try clear ho0)))
 go_ret
 exact ⟨_, by first | rfl | (simp [errW_none, errW_some] <;> rfl) | (simp [*, errW_none, errW_some] <;> rfl), by (with_reducible repeat (first | apply Kd.R_alloc | apply Kd.R_drewN | apply Kd.R_drew)); exact HO660.out, by repeat (first | (with_reducible first | exact HB.out | apply below_alloc | apply pw_below_drewN | apply below_drew1) | exact HB.out)⟩

/-! ### gudgeonref01_Mul: function 28 -/
def gudgeonref01_Mul.f (k : Nat) (l0 : List Int) (l1 : List Int) : Option (List Int) := (gudgeonref01_Bits.f k l0).bind fun t661 => ((gudgeonref01_Bits.f k l1).bind fun t664 => ((gudgeonref01_mul.f k t661 t664).bind fun t667 => ((gudgeonref01_Limbs.f k t667).bind fun t670 => (some t670))))
theorem gudgeonref01_Mul.mono : ∀ a0 a1 k, LeO (gudgeonref01_Mul.f k a0 a1) (gudgeonref01_Mul.f (k + 1) a0 a1) := by
 intro a0 a1 k
 unfold gudgeonref01_Mul.f
 repeat' first
   | (with_reducible exact gudgeonref01_Bits.mono _ _)
   | (with_reducible exact gudgeonref01_Limbs.mono _ _)
   | (with_reducible exact gudgeonref01_mul.mono _ _ _)
   | (with_reducible exact LeO.refl _)
   | (with_reducible exact LeO.none _)
   | (with_reducible refine LeO.ite ?_ ?_)
   | (with_reducible refine LeO.bind ?_ (fun _ => ?_))
   | exact gudgeonref01_Bits.mono _ _
   | exact gudgeonref01_Limbs.mono _ _
   | exact gudgeonref01_mul.mono _ _ _
   | exact LeO.none _
   | refine LeO.ite ?_ ?_
   | refine LeO.bind ?_ (fun _ => ?_)
set_option maxHeartbeats 8000000 in
set_option maxRecDepth 100000 in
theorem gudgeonref01_Mul.calls (k : Nat) (A0 : Option Addr) (c0 : Nat) (l0 : List Int) (A1 : Option Addr) (c1 : Nat) (l1 : List Int) (r : List Int) (w : World) (hr0 : Kd.C (Kd.int .u32) w A0 l0.length l0) (hc0 : l0.length ≤ c0) (hr1 : Kd.C (Kd.int .u32) w A1 l1.length l1) (hc1 : l1.length ≤ c1) (h : gudgeonref01_Mul.f k l0 l1 = some r) :
  Calls Tryd.prog 28 #[.slice A0 l0.length c0, .slice A1 l1.length c1] w fun e w' => ∃ v0_ : Value, e = .returned (v0_) ∧ Kd.R (Kd.int .u32) 43 w' w.heap.size (fun _ => True) v0_ r ∧ Below w.heap.size w w' := by
 have HR0 := Aside0.mk hr0
 have HC0 := Aside0.mk hc0
 clear hr0 hc0
 have HR1 := Aside0.mk hr1
 have HC1 := Aside0.mk hc1
 clear hr1 hc1
 have HB := Aside0.mk (Below.refl w.heap.size w)
 have H : ((gudgeonref01_Bits.f k l0).bind fun t661 => ((gudgeonref01_Bits.f k l1).bind fun t664 => ((gudgeonref01_mul.f k t661 t664).bind fun t667 => ((gudgeonref01_Limbs.f k t667).bind fun t670 => (some t670))))) = some r := h
 clear h
 replace H := Option.bind_eq_some_iff.mp H
 obtain ⟨t661, A30, H⟩ := H
 replace H : ((gudgeonref01_Bits.f k l1).bind fun t664 => ((gudgeonref01_mul.f k t661 t664).bind fun t667 => ((gudgeonref01_Limbs.f k t667).bind fun t670 => (some t670)))) = some r := H
 have A3 := Aside0.mk A30
 clear A30
 replace H := Option.bind_eq_some_iff.mp H
 obtain ⟨t664, A40, H⟩ := H
 replace H : ((gudgeonref01_mul.f k t661 t664).bind fun t667 => ((gudgeonref01_Limbs.f k t667).bind fun t670 => (some t670))) = some r := H
 have A4 := Aside0.mk A40
 clear A40
 replace H := Option.bind_eq_some_iff.mp H
 obtain ⟨t667, A50, H⟩ := H
 replace H : ((gudgeonref01_Limbs.f k t667).bind fun t670 => (some t670)) = some r := H
 have A5 := Aside0.mk A50
 clear A50
 replace H := Option.bind_eq_some_iff.mp H
 obtain ⟨t670, A60, H⟩ := H
 replace H : (some t670) = some r := H
 have A6 := Aside0.mk A60
 clear A60
 obtain rfl := Option.some.inj H
 go_enter Tryd.func28, Tryd.ntmps28
 go_wp2_with (first | ((with_reducible refine gate_callee (f := 41) rfl ?_); refine goesL_ (some 6) rfl rfl Tryd.func41 (by kernel_rfl) rfl #[.slice A0 l0.length c0] rfl (by (try simp only [List.map_toArray, List.map_cons, List.map_nil]); first | done | rfl | (simp only [List.length_drop, List.length_take]; rfl)) ?_; (with_reducible refine (gudgeonref01_Bits.calls k _ _ l0 t661 _ ?side1 ?side2 A3.out).mono ?_); (case side1 => repeat (first | exact HR0.out | (with_reducible refine Kd.C_alloc ?_ _) | (with_reducible refine Kd.C_drewN ?_ _) | (with_reducible refine Kd.C_drew ?_))); (case side2 => exact HC0.out); rintro e w7 ⟨v662, rfl, ho0, hb⟩; refine ⟨_, rfl, ?_⟩; have n0_ := Aside0.mk (Kd.R_lower ho0 (below_size (by repeat (first | (with_reducible first | exact HB.out | apply below_alloc | apply pw_below_drewN | apply below_drew1) | exact HB.out)))); have n1_ := Aside0.mk (below_step (by repeat (first | (with_reducible first | exact HB.out | apply below_alloc | apply pw_below_drewN | apply below_drew1) | exact HB.out)) hb); clear HB; have HO663 := n0_; have HB := n1_; clear n0_ n1_; (try clear hb); (try clear hb2); (try clear hk); (try clear hi); (try clear ho0)) | ((with_reducible refine gate_callee (f := 41) rfl ?_); refine goesL_ (some 8) rfl rfl Tryd.func41 (by kernel_rfl) rfl #[.slice A1 l1.length c1] rfl (by (try simp only [List.map_toArray, List.map_cons, List.map_nil]); first | done | rfl | (simp only [List.length_drop, List.length_take]; rfl)) ?_; (with_reducible refine (gudgeonref01_Bits.calls k _ _ l1 t664 _ ?side1 ?side2 A4.out).mono ?_); (case side1 => repeat (first | exact (Kd.C_below HR1.out HB.out) | (with_reducible refine Kd.C_alloc ?_ _) | (with_reducible refine Kd.C_drewN ?_ _) | (with_reducible refine Kd.C_drew ?_))); (case side2 => exact HC1.out); rintro e w8 ⟨v665, rfl, ho0, hb⟩; refine ⟨_, rfl, ?_⟩; have n0_ := Aside0.mk (Kd.R_elder' (by (with_reducible repeat (first | apply Kd.R_alloc | apply Kd.R_drewN | apply Kd.R_drew)); exact HO663.out) (Kd.R_base ho0) hb); have n1_ := Aside0.mk (Kd.R_lower (Kd.R_new' ho0 (Kd.R_lt (by (with_reducible repeat (first | apply Kd.R_alloc | apply Kd.R_drewN | apply Kd.R_drew)); exact HO663.out))) (below_size (by repeat (first | (with_reducible first | exact HB.out | apply below_alloc | apply pw_below_drewN | apply below_drew1) | exact HB.out)))); have n2_ := Aside0.mk (below_step (by repeat (first | (with_reducible first | exact HB.out | apply below_alloc | apply pw_below_drewN | apply below_drew1) | exact HB.out)) hb); clear HO663; clear HB; have HO663 := n0_; have HO666 := n1_; have HB := n2_; clear n0_ n1_ n2_; (try clear hb); (try clear hb2); (try clear hk); (try clear hi); (try clear ho0); obtain ⟨Ao9, co9, eo9⟩ := Kd.R_slice HO663.out; subst eo9; obtain ⟨Ao10, co10, eo10⟩ := Kd.R_slice HO666.out; subst eo10) | ((with_reducible refine gate_callee (f := 45) rfl ?_); refine goesL_ (some 9) rfl rfl Tryd.func45 (by kernel_rfl) rfl #[.slice Ao9 t661.length co9, .slice Ao10 t664.length co10] rfl (by (try simp only [List.map_toArray, List.map_cons, List.map_nil]); first | done | rfl | (simp only [List.length_drop, List.length_take]; rfl)) ?_; (with_reducible refine (gudgeonref01_mul.calls k _ _ t661 _ _ t664 t667 _ ?side1 ?side2 ?side3 ?side4 A5.out).mono ?_); (case side1 => repeat (first | exact (Kd.R_reads' HO663.out).2.2 | (with_reducible refine Kd.C_alloc ?_ _) | (with_reducible refine Kd.C_drewN ?_ _) | (with_reducible refine Kd.C_drew ?_))); (case side2 => exact (Kd.R_reads' HO663.out).2.1); (case side3 => repeat (first | exact (Kd.R_reads' HO666.out).2.2 | (with_reducible refine Kd.C_alloc ?_ _) | (with_reducible refine Kd.C_drewN ?_ _) | (with_reducible refine Kd.C_drew ?_))); (case side4 => exact (Kd.R_reads' HO666.out).2.1); rintro e w11 ⟨v668, rfl, ho0, hb⟩; refine ⟨_, rfl, ?_⟩; have n0_ := Aside0.mk (Kd.R_elder' (by (with_reducible repeat (first | apply Kd.R_alloc | apply Kd.R_drewN | apply Kd.R_drew)); exact HO663.out) (Kd.R_base ho0) hb); have n1_ := Aside0.mk (Kd.R_elder' (by (with_reducible repeat (first | apply Kd.R_alloc | apply Kd.R_drewN | apply Kd.R_drew)); exact HO666.out) (Kd.R_base ho0) hb); have n2_ := Aside0.mk (Kd.R_lower (Kd.R_new' (Kd.R_new' ho0 (Kd.R_lt (by (with_reducible repeat (first | apply Kd.R_alloc | apply Kd.R_drewN | apply Kd.R_drew)); exact HO663.out))) (Kd.R_lt (by (with_reducible repeat (first | apply Kd.R_alloc | apply Kd.R_drewN | apply Kd.R_drew)); exact HO666.out))) (below_size (by repeat (first | (with_reducible first | exact HB.out | apply below_alloc | apply pw_below_drewN | apply below_drew1) | exact HB.out)))); have n3_ := Aside0.mk (below_step (by repeat (first | (with_reducible first | exact HB.out | apply below_alloc | apply pw_below_drewN | apply below_drew1) | exact HB.out)) hb); clear HO663; clear HO666; clear HB; have HO663 := n0_; have HO666 := n1_; have HO669 := n2_; have HB := n3_; clear n0_ n1_ n2_ n3_; (try clear hb); (try clear hb2); (try clear hk); (try clear hi); (try clear ho0); obtain ⟨Ao12, co12, eo12⟩ := Kd.R_slice HO669.out; subst eo12) | ((with_reducible refine gate_callee (f := 43) rfl ?_); refine goesL_ (some 10) rfl rfl Tryd.func43 (by kernel_rfl) rfl #[.slice Ao12 t667.length co12] rfl (by (try simp only [List.map_toArray, List.map_cons, List.map_nil]); first | done | rfl | (simp only [List.length_drop, List.length_take]; rfl)) ?_; (with_reducible refine (gudgeonref01_Limbs.calls k _ _ t667 t670 _ ?side1 ?side2 A6.out).mono ?_); (case side1 => repeat (first | exact (Kd.R_reads' HO669.out).2.2 | (with_reducible refine Kd.C_alloc ?_ _) | (with_reducible refine Kd.C_drewN ?_ _) | (with_reducible refine Kd.C_drew ?_))); (case side2 => exact (Kd.R_reads' HO669.out).2.1); rintro e w13 ⟨v671, rfl, ho0, hb⟩; refine ⟨_, rfl, ?_⟩; have n0_ := Aside0.mk (Kd.R_below (by (with_reducible repeat (first | apply Kd.R_alloc | apply Kd.R_drewN | apply Kd.R_drew)); exact HO663.out) hb); have n1_ := Aside0.mk (Kd.R_below (by (with_reducible repeat (first | apply Kd.R_alloc | apply Kd.R_drewN | apply Kd.R_drew)); exact HO666.out) hb); have n2_ := Aside0.mk (Kd.R_below (by (with_reducible repeat (first | apply Kd.R_alloc | apply Kd.R_drewN | apply Kd.R_drew)); exact HO669.out) hb); have n3_ := Aside0.mk (Kd.R_lower ho0 (below_size (by repeat (first | (with_reducible first | exact HB.out | apply below_alloc | apply pw_below_drewN | apply below_drew1) | exact HB.out)))); have n4_ := Aside0.mk (below_step (by repeat (first | (with_reducible first | exact HB.out | apply below_alloc | apply pw_below_drewN | apply below_drew1) | exact HB.out)) hb); clear HO663; clear HO666; clear HO669; clear HB; have HO663 := n0_; have HO666 := n1_; have HO669 := n2_; have HO672 := n3_; have HB := n4_; clear n0_ n1_ n2_ n3_ n4_; (try clear hb); (try clear hb2); (try clear hk); (try clear hi); (try clear ho0)))
 go_ret
 exact ⟨_, by first | rfl | (simp [errW_none, errW_some] <;> rfl) | (simp [*, errW_none, errW_some] <;> rfl), by (with_reducible repeat (first | apply Kd.R_alloc | apply Kd.R_drewN | apply Kd.R_drew)); exact HO672.out, by repeat (first | (with_reducible first | exact HB.out | apply below_alloc | apply pw_below_drewN | apply below_drew1) | exact HB.out)⟩

/-! ### gudgeonref01_Sub: function 30 -/
def gudgeonref01_Sub.f (k : Nat) (l0 : List Int) (l1 : List Int) : Option (List Int × Int) := (gudgeonref01_Bits.f k l0).bind fun t673 => ((gudgeonref01_Bits.f k l1).bind fun t676 => ((gudgeonref01_cmp.f k t673 t676).bind fun t679 => (if t679 < 0 then (some (([] : List Int), 6)) else ((gudgeonref01_sub.f k t673 t676).bind fun t680 => ((gudgeonref01_Limbs.f k t680).bind fun t683 => (some (t683, 0)))))))
theorem gudgeonref01_Sub.mono : ∀ a0 a1 k, LeO (gudgeonref01_Sub.f k a0 a1) (gudgeonref01_Sub.f (k + 1) a0 a1) := by
 intro a0 a1 k
 unfold gudgeonref01_Sub.f
 repeat' first
   | (with_reducible exact gudgeonref01_Bits.mono _ _)
   | (with_reducible exact gudgeonref01_Limbs.mono _ _)
   | (with_reducible exact gudgeonref01_cmp.mono _ _ _)
   | (with_reducible exact gudgeonref01_sub.mono _ _ _)
   | (with_reducible exact LeO.refl _)
   | (with_reducible exact LeO.none _)
   | (with_reducible refine LeO.ite ?_ ?_)
   | (with_reducible refine LeO.bind ?_ (fun _ => ?_))
   | exact gudgeonref01_Bits.mono _ _
   | exact gudgeonref01_Limbs.mono _ _
   | exact gudgeonref01_cmp.mono _ _ _
   | exact gudgeonref01_sub.mono _ _ _
   | exact LeO.none _
   | refine LeO.ite ?_ ?_
   | refine LeO.bind ?_ (fun _ => ?_)
set_option maxHeartbeats 8000000 in
set_option maxRecDepth 100000 in
theorem gudgeonref01_Sub.calls (k : Nat) (A0 : Option Addr) (c0 : Nat) (l0 : List Int) (A1 : Option Addr) (c1 : Nat) (l1 : List Int) (r1 : List Int) (r2 : Int) (w : World) (hr0 : Kd.C (Kd.int .u32) w A0 l0.length l0) (hc0 : l0.length ≤ c0) (hr1 : Kd.C (Kd.int .u32) w A1 l1.length l1) (hc1 : l1.length ≤ c1) (h : gudgeonref01_Sub.f k l0 l1 = some (r1, r2)) :
  Calls Tryd.prog 30 #[.slice A0 l0.length c0, .slice A1 l1.length c1] w fun e w' => ∃ v0_ : Value, e = .returned (.tuple #[v0_, .int .i64 r2]) ∧ Kd.R (Kd.int .u32) 43 w' w.heap.size (fun _ => True) v0_ r1 ∧ Below w.heap.size w w' := by
 have HR0 := Aside0.mk hr0
 have HC0 := Aside0.mk hc0
 clear hr0 hc0
 have HR1 := Aside0.mk hr1
 have HC1 := Aside0.mk hc1
 clear hr1 hc1
 have HB := Aside0.mk (Below.refl w.heap.size w)
 have H : ((gudgeonref01_Bits.f k l0).bind fun t673 => ((gudgeonref01_Bits.f k l1).bind fun t676 => ((gudgeonref01_cmp.f k t673 t676).bind fun t679 => (if t679 < 0 then (some (([] : List Int), 6)) else ((gudgeonref01_sub.f k t673 t676).bind fun t680 => ((gudgeonref01_Limbs.f k t680).bind fun t683 => (some (t683, 0)))))))) = some (r1, r2) := h
 clear h
 replace H := Option.bind_eq_some_iff.mp H
 obtain ⟨t673, A30, H⟩ := H
 replace H : ((gudgeonref01_Bits.f k l1).bind fun t676 => ((gudgeonref01_cmp.f k t673 t676).bind fun t679 => (if t679 < 0 then (some (([] : List Int), 6)) else ((gudgeonref01_sub.f k t673 t676).bind fun t680 => ((gudgeonref01_Limbs.f k t680).bind fun t683 => (some (t683, 0))))))) = some (r1, r2) := H
 have A3 := Aside0.mk A30
 clear A30
 replace H := Option.bind_eq_some_iff.mp H
 obtain ⟨t676, A40, H⟩ := H
 replace H : ((gudgeonref01_cmp.f k t673 t676).bind fun t679 => (if t679 < 0 then (some (([] : List Int), 6)) else ((gudgeonref01_sub.f k t673 t676).bind fun t680 => ((gudgeonref01_Limbs.f k t680).bind fun t683 => (some (t683, 0)))))) = some (r1, r2) := H
 have A4 := Aside0.mk A40
 clear A40
 replace H := Option.bind_eq_some_iff.mp H
 obtain ⟨t679, A50, H⟩ := H
 replace H : (if t679 < 0 then (some (([] : List Int), 6)) else ((gudgeonref01_sub.f k t673 t676).bind fun t680 => ((gudgeonref01_Limbs.f k t680).bind fun t683 => (some (t683, 0))))) = some (r1, r2) := H
 have A5 := Aside0.mk A50
 clear A50
 by_cases c6 : t679 < 0
 ·rw [if_pos c6] at H
  have c6b0 : decide (t679 < 0) = true := decide_eq_true c6
  clear c6
  simp only [Option.some.injEq, Prod.mk.injEq] at H
  obtain ⟨rfl, rfl⟩ := H
  go_enter Tryd.func30, Tryd.ntmps30
  go_wp2_with (first | ((with_reducible refine gate_callee (f := 41) rfl ?_); refine goesL_ (some 9) rfl rfl Tryd.func41 (by kernel_rfl) rfl #[.slice A0 l0.length c0] rfl (by (try simp only [List.map_toArray, List.map_cons, List.map_nil]); first | done | rfl | (simp only [List.length_drop, List.length_take]; rfl)) ?_; (with_reducible refine (gudgeonref01_Bits.calls k _ _ l0 t673 _ ?side1 ?side2 A3.out).mono ?_); (case side1 => repeat (first | exact HR0.out | (with_reducible refine Kd.C_alloc ?_ _) | (with_reducible refine Kd.C_drewN ?_ _) | (with_reducible refine Kd.C_drew ?_))); (case side2 => exact HC0.out); rintro e w7 ⟨v674, rfl, ho0, hb⟩; refine ⟨_, rfl, ?_⟩; have n0_ := Aside0.mk (Kd.R_lower ho0 (below_size (by repeat (first | (with_reducible first | exact HB.out | apply below_alloc | apply pw_below_drewN | apply below_drew1) | exact HB.out)))); have n1_ := Aside0.mk (below_step (by repeat (first | (with_reducible first | exact HB.out | apply below_alloc | apply pw_below_drewN | apply below_drew1) | exact HB.out)) hb); clear HB; have HO675 := n0_; have HB := n1_; clear n0_ n1_; (try clear hb); (try clear hb2); (try clear hk); (try clear hi); (try clear ho0)) | ((with_reducible refine gate_callee (f := 41) rfl ?_); refine goesL_ (some 11) rfl rfl Tryd.func41 (by kernel_rfl) rfl #[.slice A1 l1.length c1] rfl (by (try simp only [List.map_toArray, List.map_cons, List.map_nil]); first | done | rfl | (simp only [List.length_drop, List.length_take]; rfl)) ?_; (with_reducible refine (gudgeonref01_Bits.calls k _ _ l1 t676 _ ?side1 ?side2 A4.out).mono ?_); (case side1 => repeat (first | exact (Kd.C_below HR1.out HB.out) | (with_reducible refine Kd.C_alloc ?_ _) | (with_reducible refine Kd.C_drewN ?_ _) | (with_reducible refine Kd.C_drew ?_))); (case side2 => exact HC1.out); rintro e w8 ⟨v677, rfl, ho0, hb⟩; refine ⟨_, rfl, ?_⟩; have n0_ := Aside0.mk (Kd.R_elder' (by (with_reducible repeat (first | apply Kd.R_alloc | apply Kd.R_drewN | apply Kd.R_drew)); exact HO675.out) (Kd.R_base ho0) hb); have n1_ := Aside0.mk (Kd.R_lower (Kd.R_new' ho0 (Kd.R_lt (by (with_reducible repeat (first | apply Kd.R_alloc | apply Kd.R_drewN | apply Kd.R_drew)); exact HO675.out))) (below_size (by repeat (first | (with_reducible first | exact HB.out | apply below_alloc | apply pw_below_drewN | apply below_drew1) | exact HB.out)))); have n2_ := Aside0.mk (below_step (by repeat (first | (with_reducible first | exact HB.out | apply below_alloc | apply pw_below_drewN | apply below_drew1) | exact HB.out)) hb); clear HO675; clear HB; have HO675 := n0_; have HO678 := n1_; have HB := n2_; clear n0_ n1_ n2_; (try clear hb); (try clear hb2); (try clear hk); (try clear hi); (try clear ho0); obtain ⟨Ao9, co9, eo9⟩ := Kd.R_slice HO675.out; subst eo9; obtain ⟨Ao10, co10, eo10⟩ := Kd.R_slice HO678.out; subst eo10) | ((with_reducible refine gate_callee (f := 50) rfl ?_); refine goesL_ (some 14) rfl rfl Tryd.func50 (by kernel_rfl) rfl #[.slice Ao9 t673.length co9, .slice Ao10 t676.length co10] rfl (by (try simp only [List.map_toArray, List.map_cons, List.map_nil]); first | done | rfl | (simp only [List.length_drop, List.length_take]; rfl)) ?_; (with_reducible refine (gudgeonref01_cmp.calls k _ _ t673 _ _ t676 t679 _ ?side1 ?side2 ?side3 ?side4 A5.out).mono ?_); (case side1 => repeat (first | exact (Kd.R_reads' HO675.out).2.2 | (with_reducible refine Kd.C_alloc ?_ _) | (with_reducible refine Kd.C_drewN ?_ _) | (with_reducible refine Kd.C_drew ?_))); (case side2 => exact (Kd.R_reads' HO675.out).2.1); (case side3 => repeat (first | exact (Kd.R_reads' HO678.out).2.2 | (with_reducible refine Kd.C_alloc ?_ _) | (with_reducible refine Kd.C_drewN ?_ _) | (with_reducible refine Kd.C_drew ?_))); (case side4 => exact (Kd.R_reads' HO678.out).2.1); rintro e w' ⟨rfl, ⟨nd, rfl⟩⟩; refine ⟨_, rfl, ?_⟩))
  go_ret2
  exact ⟨_, by first | rfl | (simp [errW_none, errW_some] <;> rfl) | (simp [*, errW_none, errW_some] <;> rfl), by first | exact Kd.R_nil _ _ _ _ _ | exact Kd.N_nil _ _ _ _ _ | exact Kd.V_nil _ _ _ _ _ | exact Kd.Q_nil _ _ _ _ _ | exact Kd.S_nil _ _ _ _ _, by repeat (first | (with_reducible first | exact HB.out | apply below_alloc | apply pw_below_drewN | apply below_drew1) | exact HB.out)⟩
 ·rw [if_neg c6] at H
  have c6b0 : decide (t679 < 0) = false := decide_eq_false c6
  clear c6
  replace H := Option.bind_eq_some_iff.mp H
  obtain ⟨t680, A110, H⟩ := H
  replace H : ((gudgeonref01_Limbs.f k t680).bind fun t683 => (some (t683, 0))) = some (r1, r2) := H
  have A11 := Aside0.mk A110
  clear A110
  replace H := Option.bind_eq_some_iff.mp H
  obtain ⟨t683, A120, H⟩ := H
  replace H : (some (t683, 0)) = some (r1, r2) := H
  have A12 := Aside0.mk A120
  clear A120
  simp only [Option.some.injEq, Prod.mk.injEq] at H
  obtain ⟨rfl, rfl⟩ := H
  go_enter Tryd.func30, Tryd.ntmps30
  go_wp2_with (first | ((with_reducible refine gate_callee (f := 41) rfl ?_); refine goesL_ (some 9) rfl rfl Tryd.func41 (by kernel_rfl) rfl #[.slice A0 l0.length c0] rfl (by (try simp only [List.map_toArray, List.map_cons, List.map_nil]); first | done | rfl | (simp only [List.length_drop, List.length_take]; rfl)) ?_; (with_reducible refine (gudgeonref01_Bits.calls k _ _ l0 t673 _ ?side1 ?side2 A3.out).mono ?_); (case side1 => repeat (first | exact HR0.out | (with_reducible refine Kd.C_alloc ?_ _) | (with_reducible refine Kd.C_drewN ?_ _) | (with_reducible refine Kd.C_drew ?_))); (case side2 => exact HC0.out); rintro e w13 ⟨v674, rfl, ho0, hb⟩; refine ⟨_, rfl, ?_⟩; have n0_ := Aside0.mk (Kd.R_lower ho0 (below_size (by repeat (first | (with_reducible first | exact HB.out | apply below_alloc | apply pw_below_drewN | apply below_drew1) | exact HB.out)))); have n1_ := Aside0.mk (below_step (by repeat (first | (with_reducible first | exact HB.out | apply below_alloc | apply pw_below_drewN | apply below_drew1) | exact HB.out)) hb); clear HB; have HO675 := n0_; have HB := n1_; clear n0_ n1_; (try clear hb); (try clear hb2); (try clear hk); (try clear hi); (try clear ho0)) | ((with_reducible refine gate_callee (f := 41) rfl ?_); refine goesL_ (some 11) rfl rfl Tryd.func41 (by kernel_rfl) rfl #[.slice A1 l1.length c1] rfl (by (try simp only [List.map_toArray, List.map_cons, List.map_nil]); first | done | rfl | (simp only [List.length_drop, List.length_take]; rfl)) ?_; (with_reducible refine (gudgeonref01_Bits.calls k _ _ l1 t676 _ ?side1 ?side2 A4.out).mono ?_); (case side1 => repeat (first | exact (Kd.C_below HR1.out HB.out) | (with_reducible refine Kd.C_alloc ?_ _) | (with_reducible refine Kd.C_drewN ?_ _) | (with_reducible refine Kd.C_drew ?_))); (case side2 => exact HC1.out); rintro e w14 ⟨v677, rfl, ho0, hb⟩; refine ⟨_, rfl, ?_⟩; have n0_ := Aside0.mk (Kd.R_elder' (by (with_reducible repeat (first | apply Kd.R_alloc | apply Kd.R_drewN | apply Kd.R_drew)); exact HO675.out) (Kd.R_base ho0) hb); have n1_ := Aside0.mk (Kd.R_lower (Kd.R_new' ho0 (Kd.R_lt (by (with_reducible repeat (first | apply Kd.R_alloc | apply Kd.R_drewN | apply Kd.R_drew)); exact HO675.out))) (below_size (by repeat (first | (with_reducible first | exact HB.out | apply below_alloc | apply pw_below_drewN | apply below_drew1) | exact HB.out)))); have n2_ := Aside0.mk (below_step (by repeat (first | (with_reducible first | exact HB.out | apply below_alloc | apply pw_below_drewN | apply below_drew1) | exact HB.out)) hb); clear HO675; clear HB; have HO675 := n0_; have HO678 := n1_; have HB := n2_; clear n0_ n1_ n2_; (try clear hb); (try clear hb2); (try clear hk); (try clear hi); (try clear ho0); obtain ⟨Ao15, co15, eo15⟩ := Kd.R_slice HO675.out; subst eo15; obtain ⟨Ao16, co16, eo16⟩ := Kd.R_slice HO678.out; subst eo16) | ((with_reducible refine gate_callee (f := 50) rfl ?_); refine goesL_ (some 14) rfl rfl Tryd.func50 (by kernel_rfl) rfl #[.slice Ao15 t673.length co15, .slice Ao16 t676.length co16] rfl (by (try simp only [List.map_toArray, List.map_cons, List.map_nil]); first | done | rfl | (simp only [List.length_drop, List.length_take]; rfl)) ?_; (with_reducible refine (gudgeonref01_cmp.calls k _ _ t673 _ _ t676 t679 _ ?side1 ?side2 ?side3 ?side4 A5.out).mono ?_); (case side1 => repeat (first | exact (Kd.R_reads' HO675.out).2.2 | (with_reducible refine Kd.C_alloc ?_ _) | (with_reducible refine Kd.C_drewN ?_ _) | (with_reducible refine Kd.C_drew ?_))); (case side2 => exact (Kd.R_reads' HO675.out).2.1); (case side3 => repeat (first | exact (Kd.R_reads' HO678.out).2.2 | (with_reducible refine Kd.C_alloc ?_ _) | (with_reducible refine Kd.C_drewN ?_ _) | (with_reducible refine Kd.C_drew ?_))); (case side4 => exact (Kd.R_reads' HO678.out).2.1); rintro e w' ⟨rfl, ⟨nd, rfl⟩⟩; refine ⟨_, rfl, ?_⟩) | ((with_reducible refine gate_callee (f := 51) rfl ?_); refine goesL_ (some 18) rfl rfl Tryd.func51 (by kernel_rfl) rfl #[.slice Ao15 t673.length co15, .slice Ao16 t676.length co16] rfl (by (try simp only [List.map_toArray, List.map_cons, List.map_nil]); first | done | rfl | (simp only [List.length_drop, List.length_take]; rfl)) ?_; (with_reducible refine (gudgeonref01_sub.calls k _ _ t673 _ _ t676 t680 _ ?side1 ?side2 ?side3 ?side4 A11.out).mono ?_); (case side1 => repeat (first | exact (Kd.R_reads' HO675.out).2.2 | (with_reducible refine Kd.C_alloc ?_ _) | (with_reducible refine Kd.C_drewN ?_ _) | (with_reducible refine Kd.C_drew ?_))); (case side2 => exact (Kd.R_reads' HO675.out).2.1); (case side3 => repeat (first | exact (Kd.R_reads' HO678.out).2.2 | (with_reducible refine Kd.C_alloc ?_ _) | (with_reducible refine Kd.C_drewN ?_ _) | (with_reducible refine Kd.C_drew ?_))); (case side4 => exact (Kd.R_reads' HO678.out).2.1); rintro e w17 ⟨v681, rfl, ho0, hb⟩; refine ⟨_, rfl, ?_⟩; have n0_ := Aside0.mk (Kd.R_elder' (by (with_reducible repeat (first | apply Kd.R_alloc | apply Kd.R_drewN | apply Kd.R_drew)); exact HO675.out) (Kd.R_base ho0) hb); have n1_ := Aside0.mk (Kd.R_elder' (by (with_reducible repeat (first | apply Kd.R_alloc | apply Kd.R_drewN | apply Kd.R_drew)); exact HO678.out) (Kd.R_base ho0) hb); have n2_ := Aside0.mk (Kd.R_lower (Kd.R_new' (Kd.R_new' ho0 (Kd.R_lt (by (with_reducible repeat (first | apply Kd.R_alloc | apply Kd.R_drewN | apply Kd.R_drew)); exact HO675.out))) (Kd.R_lt (by (with_reducible repeat (first | apply Kd.R_alloc | apply Kd.R_drewN | apply Kd.R_drew)); exact HO678.out))) (below_size (by repeat (first | (with_reducible first | exact HB.out | apply below_alloc | apply pw_below_drewN | apply below_drew1) | exact HB.out)))); have n3_ := Aside0.mk (below_step (by repeat (first | (with_reducible first | exact HB.out | apply below_alloc | apply pw_below_drewN | apply below_drew1) | exact HB.out)) hb); clear HO675; clear HO678; clear HB; have HO675 := n0_; have HO678 := n1_; have HO682 := n2_; have HB := n3_; clear n0_ n1_ n2_ n3_; (try clear hb); (try clear hb2); (try clear hk); (try clear hi); (try clear ho0); obtain ⟨Ao18, co18, eo18⟩ := Kd.R_slice HO682.out; subst eo18) | ((with_reducible refine gate_callee (f := 43) rfl ?_); refine goesL_ (some 19) rfl rfl Tryd.func43 (by kernel_rfl) rfl #[.slice Ao18 t680.length co18] rfl (by (try simp only [List.map_toArray, List.map_cons, List.map_nil]); first | done | rfl | (simp only [List.length_drop, List.length_take]; rfl)) ?_; (with_reducible refine (gudgeonref01_Limbs.calls k _ _ t680 t683 _ ?side1 ?side2 A12.out).mono ?_); (case side1 => repeat (first | exact (Kd.R_reads' HO682.out).2.2 | (with_reducible refine Kd.C_alloc ?_ _) | (with_reducible refine Kd.C_drewN ?_ _) | (with_reducible refine Kd.C_drew ?_))); (case side2 => exact (Kd.R_reads' HO682.out).2.1); rintro e w19 ⟨v684, rfl, ho0, hb⟩; refine ⟨_, rfl, ?_⟩; have n0_ := Aside0.mk (Kd.R_below (by (with_reducible repeat (first | apply Kd.R_alloc | apply Kd.R_drewN | apply Kd.R_drew)); exact HO675.out) hb); have n1_ := Aside0.mk (Kd.R_below (by (with_reducible repeat (first | apply Kd.R_alloc | apply Kd.R_drewN | apply Kd.R_drew)); exact HO678.out) hb); have n2_ := Aside0.mk (Kd.R_below (by (with_reducible repeat (first | apply Kd.R_alloc | apply Kd.R_drewN | apply Kd.R_drew)); exact HO682.out) hb); have n3_ := Aside0.mk (Kd.R_lower ho0 (below_size (by repeat (first | (with_reducible first | exact HB.out | apply below_alloc | apply pw_below_drewN | apply below_drew1) | exact HB.out)))); have n4_ := Aside0.mk (below_step (by repeat (first | (with_reducible first | exact HB.out | apply below_alloc | apply pw_below_drewN | apply below_drew1) | exact HB.out)) hb); clear HO675; clear HO678; clear HO682; clear HB; have HO675 := n0_; have HO678 := n1_; have HO682 := n2_; have HO685 := n3_; have HB := n4_; clear n0_ n1_ n2_ n3_ n4_; (try clear hb); (try clear hb2); (try clear hk); (try clear hi); (try clear ho0)))
  go_ret2
  exact ⟨_, by first | rfl | (simp [errW_none, errW_some] <;> rfl) | (simp [*, errW_none, errW_some] <;> rfl), by (with_reducible repeat (first | apply Kd.R_alloc | apply Kd.R_drewN | apply Kd.R_drew)); exact HO685.out, by repeat (first | (with_reducible first | exact HB.out | apply below_alloc | apply pw_below_drewN | apply below_drew1) | exact HB.out)⟩

/-! ### gudgeonref01_Cmp: function 31 -/
def gudgeonref01_Cmp.f (k : Nat) (l0 : List Int) (l1 : List Int) : Option (Int) := (gudgeonref01_Bits.f k l0).bind fun t686 => ((gudgeonref01_Bits.f k l1).bind fun t689 => ((gudgeonref01_cmp.f k t686 t689).bind fun t692 => (some t692)))
theorem gudgeonref01_Cmp.mono : ∀ a0 a1 k, LeO (gudgeonref01_Cmp.f k a0 a1) (gudgeonref01_Cmp.f (k + 1) a0 a1) := by
 intro a0 a1 k
 unfold gudgeonref01_Cmp.f
 repeat' first
   | (with_reducible exact gudgeonref01_Bits.mono _ _)
   | (with_reducible exact gudgeonref01_cmp.mono _ _ _)
   | (with_reducible exact LeO.refl _)
   | (with_reducible exact LeO.none _)
   | (with_reducible refine LeO.ite ?_ ?_)
   | (with_reducible refine LeO.bind ?_ (fun _ => ?_))
   | exact gudgeonref01_Bits.mono _ _
   | exact gudgeonref01_cmp.mono _ _ _
   | exact LeO.none _
   | refine LeO.ite ?_ ?_
   | refine LeO.bind ?_ (fun _ => ?_)
set_option maxHeartbeats 8000000 in
set_option maxRecDepth 100000 in
theorem gudgeonref01_Cmp.calls (k : Nat) (A0 : Option Addr) (c0 : Nat) (l0 : List Int) (A1 : Option Addr) (c1 : Nat) (l1 : List Int) (r : Int) (w : World) (hr0 : Kd.C (Kd.int .u32) w A0 l0.length l0) (hc0 : l0.length ≤ c0) (hr1 : Kd.C (Kd.int .u32) w A1 l1.length l1) (hc1 : l1.length ≤ c1) (h : gudgeonref01_Cmp.f k l0 l1 = some r) :
  Calls Tryd.prog 31 #[.slice A0 l0.length c0, .slice A1 l1.length c1] w fun e w' => e = .returned (.int .i64 r) ∧ Below w.heap.size w w' := by
 have HR0 := Aside0.mk hr0
 have HC0 := Aside0.mk hc0
 clear hr0 hc0
 have HR1 := Aside0.mk hr1
 have HC1 := Aside0.mk hc1
 clear hr1 hc1
 have HB := Aside0.mk (Below.refl w.heap.size w)
 have H : ((gudgeonref01_Bits.f k l0).bind fun t686 => ((gudgeonref01_Bits.f k l1).bind fun t689 => ((gudgeonref01_cmp.f k t686 t689).bind fun t692 => (some t692)))) = some r := h
 clear h
 replace H := Option.bind_eq_some_iff.mp H
 obtain ⟨t686, A30, H⟩ := H
 replace H : ((gudgeonref01_Bits.f k l1).bind fun t689 => ((gudgeonref01_cmp.f k t686 t689).bind fun t692 => (some t692))) = some r := H
 have A3 := Aside0.mk A30
 clear A30
 replace H := Option.bind_eq_some_iff.mp H
 obtain ⟨t689, A40, H⟩ := H
 replace H : ((gudgeonref01_cmp.f k t686 t689).bind fun t692 => (some t692)) = some r := H
 have A4 := Aside0.mk A40
 clear A40
 replace H := Option.bind_eq_some_iff.mp H
 obtain ⟨t692, A50, H⟩ := H
 replace H : (some t692) = some r := H
 have A5 := Aside0.mk A50
 clear A50
 obtain rfl := Option.some.inj H
 go_enter Tryd.func31, Tryd.ntmps31
 go_wp2_with (first | ((with_reducible refine gate_callee (f := 41) rfl ?_); refine goesL_ (some 6) rfl rfl Tryd.func41 (by kernel_rfl) rfl #[.slice A0 l0.length c0] rfl (by (try simp only [List.map_toArray, List.map_cons, List.map_nil]); first | done | rfl | (simp only [List.length_drop, List.length_take]; rfl)) ?_; (with_reducible refine (gudgeonref01_Bits.calls k _ _ l0 t686 _ ?side1 ?side2 A3.out).mono ?_); (case side1 => repeat (first | exact HR0.out | (with_reducible refine Kd.C_alloc ?_ _) | (with_reducible refine Kd.C_drewN ?_ _) | (with_reducible refine Kd.C_drew ?_))); (case side2 => exact HC0.out); rintro e w6 ⟨v687, rfl, ho0, hb⟩; refine ⟨_, rfl, ?_⟩; have n0_ := Aside0.mk (Kd.R_lower ho0 (below_size (by repeat (first | (with_reducible first | exact HB.out | apply below_alloc | apply pw_below_drewN | apply below_drew1) | exact HB.out)))); have n1_ := Aside0.mk (below_step (by repeat (first | (with_reducible first | exact HB.out | apply below_alloc | apply pw_below_drewN | apply below_drew1) | exact HB.out)) hb); clear HB; have HO688 := n0_; have HB := n1_; clear n0_ n1_; (try clear hb); (try clear hb2); (try clear hk); (try clear hi); (try clear ho0)) | ((with_reducible refine gate_callee (f := 41) rfl ?_); refine goesL_ (some 8) rfl rfl Tryd.func41 (by kernel_rfl) rfl #[.slice A1 l1.length c1] rfl (by (try simp only [List.map_toArray, List.map_cons, List.map_nil]); first | done | rfl | (simp only [List.length_drop, List.length_take]; rfl)) ?_; (with_reducible refine (gudgeonref01_Bits.calls k _ _ l1 t689 _ ?side1 ?side2 A4.out).mono ?_); (case side1 => repeat (first | exact (Kd.C_below HR1.out HB.out) | (with_reducible refine Kd.C_alloc ?_ _) | (with_reducible refine Kd.C_drewN ?_ _) | (with_reducible refine Kd.C_drew ?_))); (case side2 => exact HC1.out); rintro e w7 ⟨v690, rfl, ho0, hb⟩; refine ⟨_, rfl, ?_⟩; have n0_ := Aside0.mk (Kd.R_elder' (by (with_reducible repeat (first | apply Kd.R_alloc | apply Kd.R_drewN | apply Kd.R_drew)); exact HO688.out) (Kd.R_base ho0) hb); have n1_ := Aside0.mk (Kd.R_lower (Kd.R_new' ho0 (Kd.R_lt (by (with_reducible repeat (first | apply Kd.R_alloc | apply Kd.R_drewN | apply Kd.R_drew)); exact HO688.out))) (below_size (by repeat (first | (with_reducible first | exact HB.out | apply below_alloc | apply pw_below_drewN | apply below_drew1) | exact HB.out)))); have n2_ := Aside0.mk (below_step (by repeat (first | (with_reducible first | exact HB.out | apply below_alloc | apply pw_below_drewN | apply below_drew1) | exact HB.out)) hb); clear HO688; clear HB; have HO688 := n0_; have HO691 := n1_; have HB := n2_; clear n0_ n1_ n2_; (try clear hb); (try clear hb2); (try clear hk); (try clear hi); (try clear ho0); obtain ⟨Ao8, co8, eo8⟩ := Kd.R_slice HO688.out; subst eo8; obtain ⟨Ao9, co9, eo9⟩ := Kd.R_slice HO691.out; subst eo9) | ((with_reducible refine gate_callee (f := 50) rfl ?_); refine goesL_ (some 9) rfl rfl Tryd.func50 (by kernel_rfl) rfl #[.slice Ao8 t686.length co8, .slice Ao9 t689.length co9] rfl (by (try simp only [List.map_toArray, List.map_cons, List.map_nil]); first | done | rfl | (simp only [List.length_drop, List.length_take]; rfl)) ?_; (with_reducible refine (gudgeonref01_cmp.calls k _ _ t686 _ _ t689 t692 _ ?side1 ?side2 ?side3 ?side4 A5.out).mono ?_); (case side1 => repeat (first | exact (Kd.R_reads' HO688.out).2.2 | (with_reducible refine Kd.C_alloc ?_ _) | (with_reducible refine Kd.C_drewN ?_ _) | (with_reducible refine Kd.C_drew ?_))); (case side2 => exact (Kd.R_reads' HO688.out).2.1); (case side3 => repeat (first | exact (Kd.R_reads' HO691.out).2.2 | (with_reducible refine Kd.C_alloc ?_ _) | (with_reducible refine Kd.C_drewN ?_ _) | (with_reducible refine Kd.C_drew ?_))); (case side4 => exact (Kd.R_reads' HO691.out).2.1); rintro e w' ⟨rfl, ⟨nd, rfl⟩⟩; refine ⟨_, rfl, ?_⟩))
 go_ret
 exact ⟨by first | rfl | (simp [errW_none, errW_some] <;> rfl) | (simp [*, errW_none, errW_some] <;> rfl), by repeat (first | (with_reducible first | exact HB.out | apply below_alloc | apply pw_below_drewN | apply below_drew1) | exact HB.out)⟩

end Go.Proofs.YtlfpnohpcemkgaaDoor.PA
/- The reference's differences, products, and numbers by limbs again; its sums of limbs. -/
namespace Go.Proofs.YtlfpnohpcemkgaaDoor.V
set_option linter.unusedVariables false
set_option linter.unusedSimpArgs false
open Go.RowKit Go.Proofs.YtlfpnohpcemkgaaDoor.PA Go.Proofs.YtlfpnohpcemkgaaDoor.H Go.Proofs.YtlfpnohpcemkgaaDoorW.PrintWords Go.Proofs.YtlfpnohpcemkgaaDoorW.PrintLast Go.Proofs.YtlfpnohpcemkgaaDoorW.PrintMore

/-! ### differences -/
theorem step_bsub {V P c A B x y q r : Int} (h : V - P * c = A - B) (e : r - 2 * q = x - y - c) : V + P * r - (2 * P) * q = A + P * x - (B + P * y) := by grind
theorem bsub_j1 (a b out : List Bool) (c : Bool) (i : Nat) (x : Bool) (n : Int) (hn : n = b2i x) (ho : out.length ≤ 2000000000) (hi : i ≤ 2000000000) (r : List Bool)
    (h : Ev (fun k => gudgeonref01_sub.l0 k a b (out ++ [decide ((b2i x - b2i (b.getD i false) - b2i c) % 2 = 1)]) (decide (b2i x - b2i (b.getD i false) - b2i c < 0)) ((i + 1 : Nat) : Int)) r) : Ev (fun k => gudgeonref01_sub.j1 k a b out c (i : Int) n) r := by
  subst hn
  refine Ev.step (fun k => ?_) h
  simp only [gudgeonref01_sub.j1]
  rw [at_ev, Option.bind_some]
  have hlim : out.length < 140737488355328 := by omega
  cases b.getD i false <;> cases x <;> cases c <;> simp only [b2i, if_true, Bool.false_eq_true, if_false] <;> rw [w64 (x := (i : Int) + 1) (by omega) (by omega)] <;> simp [wm1, wm2, wm0, w01, hlim]
theorem bsub_l0 (a b : List Bool) (ha : LB a) (hb : LB b) (hab : bval b ≤ bval a) (d : Nat) : ∀ (i : Nat) (out : List Bool) (c : Bool), i + d = a.length → out.length = i → bval out - p2 i * b2i c = bval (a.take i) - bval (b.take i) →
    Ev (fun k => gudgeonref01_sub.l0 k a b out c (i : Int)) (bits (bval a - bval b)) := by
  unfold LB at ha hb
  induction d with
  | zero =>
    intro i out c hi ho hv
    obtain rfl : i = a.length := by omega
    rw [List.take_of_length_le (Nat.le_refl _)] at hv
    have hbt : bval (b.take a.length) = bval b := by
      by_cases hl : b.length ≤ a.length
      · rw [List.take_of_length_le hl]
      · have e := bval_take_drop b a.length (by omega)
        have h1 := bval_lt a
        have h2 := bval_nonneg (b.take a.length)
        have h3 := bval_nonneg (b.drop a.length)
        have h4 := p2_pos a.length
        by_cases hz : bval (b.drop a.length) = 0
        · rw [hz] at e; omega
        · have : p2 a.length * 1 ≤ p2 a.length * bval (b.drop a.length) := Int.mul_le_mul_of_nonneg_left (by omega) (by omega)
          omega
    rw [hbt] at hv
    have h1 := bval_lt out
    rw [ho] at h1
    have hc : c = false := by
      cases c
      · rfl
      · simp only [b2i, if_true] at hv; omega
    subst hc
    simp only [b2i, Bool.false_eq_true, if_false, Int.mul_zero, Int.sub_zero] at hv
    have ht := btrim_ev out (by omega)
    rw [hv] at ht
    refine Ev.step (fun k => ?_) (Ev.bind (f := fun _ t => some t) ht (Ev.now _))
    simp only [gudgeonref01_sub.l0]
    rw [if_neg (by omega)]
  | succ d ih =>
    intro i out c hi ho hv
    have hia : i < a.length := by omega
    have hnext := ih (i + 1) (out ++ [decide ((b2i (a.getD i false) - b2i (b.getD i false) - b2i c) % 2 = 1)]) (decide (b2i (a.getD i false) - b2i (b.getD i false) - b2i c < 0)) (by omega) (by simp [ho]) (by
      rw [bval_snoc, ho, p2_succ, bval_take_getD a, bval_take_getD b]
      apply step_bsub hv
      cases a.getD i false <;> cases b.getD i false <;> cases c <;> rfl)
    refine Ev.step (f := fun k => gudgeonref01_sub.j1 k a b out c (i : Int) (b2i (a.getD i false))) (fun k => ?_) (bsub_j1 a b out c i _ _ rfl (by omega) (by omega) _ hnext)
    simp only [gudgeonref01_sub.l0]
    rw [if_pos (by omega), if_pos (by omega), rdOf_D]
    cases a.getD i false
    · rw [if_neg (by decide)]; rfl
    · rw [if_pos rfl]; rfl
theorem bsub_ev (a b : List Bool) (ha : LB a) (hb : LB b) (hab : bval b ≤ bval a) : Ev (fun k => gudgeonref01_sub.f k a b) (bits (bval a - bval b)) :=
  Ev.congr (fun k => rfl) (bsub_l0 a b ha hb hab a.length 0 [] false (by omega) rfl (by simp [bval, b2i]))
/-! ### products -/
theorem bmul_bound {x y : Int} {m n : Nat} (h0 : 0 ≤ x) (h1 : x < p2 m) (g0 : 0 ≤ y) (g1 : y < p2 n) : x * y < p2 (m + n) := by
  rw [p2_add]
  have a1 : x * y ≤ x * p2 n := Int.mul_le_mul_of_nonneg_left (by omega) h0
  have a2 : x * p2 n < p2 m * p2 n := Int.mul_lt_mul_of_pos_right h1 (p2_pos n)
  omega
theorem bmul_l0 (a b : List Bool) (ha : a.length ≤ 400000000) (hb : b.length ≤ 400000000) (d : Nat) : ∀ (out : List Bool), d ≤ a.length → out.length ≤ (a.length - d) + b.length → bval out = bval (a.drop d) * bval b →
    Ev (fun k => gudgeonref01_mul.l0 k a b out ((d : Int) - 1)) (bits (bval a * bval b)) := by
  induction d with
  | zero =>
    intro out hd ho hv
    rw [List.drop_zero] at hv
    have ht := btrim_ev out (by omega)
    rw [hv] at ht
    refine Ev.step (fun k => ?_) (Ev.bind (f := fun _ t => some t) ht (Ev.now _))
    simp only [gudgeonref01_mul.l0]
    rw [if_neg (by omega)]
  | succ d ih =>
    intro out hd ho hv
    have hda : d < a.length := by omega
    have e0 : ((d + 1 : Nat) : Int) - 1 = (d : Int) := by omega
    have hdrop := bval_drop_getD a d
    have hv2 : bval (false :: out) = 2 * bval out := by simp [bval, b2i]
    rw [e0]
    cases hx : a.getD d false with
    | true =>
      rw [hx] at hdrop
      simp only [b2i, if_true] at hdrop
      have hadd := badd_ev (false :: out) b (by unfold LB; simp; omega) (by unfold LB; omega)
      have e1 : bval (false :: out) + bval b = bval (a.drop d) * bval b := by rw [hv2, hv, hdrop]; grind
      rw [e1] at hadd
      have hb1 := bmul_bound (bval_nonneg (a.drop d)) (bval_lt (a.drop d)) (bval_nonneg b) (bval_lt b)
      have h0 := Int.mul_nonneg (bval_nonneg (a.drop d)) (bval_nonneg b)
      have hl := bits_length_le h0 hb1
      rw [List.length_drop] at hl
      refine Ev.step (fun k => ?_) (Ev.bind (f := fun k t => gudgeonref01_mul.l0 k a b t ((d : Int) - 1)) hadd (ih _ (by omega) (by omega) (bval_bits h0)))
      simp only [gudgeonref01_mul.l0]
      rw [if_pos (by omega), Option.bind_some, if_pos (by simp; omega), Option.bind_some, if_pos (by omega), if_pos (by omega), rdOf_D, hx, if_pos rfl, w64 (by omega) (by omega)]
      rfl
    | false =>
      rw [hx] at hdrop
      simp only [b2i, Bool.false_eq_true, if_false, Int.zero_add] at hdrop
      refine Ev.step (fun k => ?_) (ih (false :: out) (by omega) (by simp; omega) (by rw [hv2, hv, hdrop]; grind))
      simp only [gudgeonref01_mul.l0]
      rw [if_pos (by omega), Option.bind_some, if_pos (by simp; omega), Option.bind_some, if_pos (by omega), if_pos (by omega), rdOf_D, hx, if_neg (by decide), w64 (by omega) (by omega)]
      rfl
theorem bmul_ev (a b : List Bool) (ha : a.length ≤ 400000000) (hb : b.length ≤ 400000000) : Ev (fun k => gudgeonref01_mul.f k a b) (bits (bval a * bval b)) := by
  refine Ev.congr (fun k => ?_) (bmul_l0 a b ha hb a.length [] (Nat.le_refl _) (by simp) (by rw [List.drop_eq_nil_of_le (Nat.le_refl _)]; simp [bval]))
  unfold gudgeonref01_mul.f
  rw [w64 (by omega) (by omega)]
/-! ### limbs -/
theorem lim_inj (a : List Int) : ∀ b, Lim a → Lim b → a.length = b.length → val a = val b → a = b := by
  induction a with
  | nil => intro b _ _ hl _; exact (List.eq_nil_of_length_eq_zero (by simpa using hl.symm)).symm
  | cons x a ih =>
    intro b ha hb hl hv
    cases b with
    | nil => simp at hl
    | cons y b =>
      have hx := ha.head
      have hy := hb.head
      simp only [val] at hv
      have e1 : x = y := by omega
      have e2 : val a = val b := by omega
      rw [e1, ih b ha.tail hb.tail (by simpa using hl) e2]
theorem getD_win (l : List Bool) (i j : Nat) (hj : j < 32) : ((l.drop i).take 32).getD j false = l.getD (i + j) false := by
  simp [List.getD_eq_getElem?_getD, List.getElem?_take, hj]
theorem Limbs_l1 (l : List Bool) (hl : l.length ≤ 1000000000) (m : Nat) (hm : m ≤ 100000000) (out : List Int) (ho : out.length ≤ 100000000) (r : List Int) (h : Ev (fun k => gudgeonref01_Limbs.l0 k l (out ++ [bval ((l.drop (32 * m)).take 32)]) ((32 * (m + 1) : Nat) : Int)) r) (j : Nat) (hj : j ≤ 32) :
    Ev (fun k => gudgeonref01_Limbs.l1 k l out ((32 * m : Nat) : Int) (bval (((l.drop (32 * m)).take 32).drop j)) (((32 * m + j : Nat) : Int) - 1)) r := by
  induction j with
  | zero =>
    rw [List.drop_zero]
    refine Ev.step (fun k => ?_) h
    simp only [gudgeonref01_Limbs.l1]
    rw [if_neg (by omega), if_pos (by omega), w64 (by omega) (by omega), show ((32 * m : Nat) : Int) + 32 = ((32 * (m + 1) : Nat) : Int) by omega]
  | succ j ih =>
    have hd := bval_drop_getD ((l.drop (32 * m)).take 32) j
    rw [getD_win l (32 * m) j (by omega)] at hd
    have h0 := bval_nonneg (((l.drop (32 * m)).take 32).drop (j + 1))
    have h1 : bval (((l.drop (32 * m)).take 32).drop (j + 1)) < p2 31 := by
      have := bval_lt (((l.drop (32 * m)).take 32).drop (j + 1))
      have h2 := p2_le (show (((l.drop (32 * m)).take 32).drop (j + 1)).length ≤ 31 by rw [List.length_drop, List.length_take]; omega)
      omega
    have e31 : p2 31 = 2147483648 := rfl
    have e0 : ((32 * m + (j + 1) : Nat) : Int) - 1 = ((32 * m + j : Nat) : Int) := by omega
    rw [e0]
    refine Ev.step (fun k => ?_) (ih (by omega))
    simp only [gudgeonref01_Limbs.l1]
    by_cases hlt : 32 * m + j < l.length
    · rw [if_pos (by omega), if_pos (by omega), if_pos (by omega), rdOf_D]
      cases hb : l.getD (32 * m + j) false with
      | true =>
        rw [hb] at hd
        simp only [b2i, if_true] at hd
        rw [if_pos rfl, w64 (by omega) (by omega), hd]
        congr 1
        omega
      | false =>
        rw [hb] at hd
        simp only [b2i, Bool.false_eq_true, if_false] at hd
        rw [if_neg (by decide), w64 (by omega) (by omega), hd]
        congr 1
        omega
    · have hb : l.getD (32 * m + j) false = false := by rw [List.getD_eq_getElem?_getD, List.getElem?_eq_none (by omega)]; rfl
      rw [hb] at hd
      simp only [b2i, Bool.false_eq_true, if_false] at hd
      rw [if_pos (by omega), if_neg (by omega), w64 (by omega) (by omega), hd]
      congr 1
      omega
theorem Limbs_l0 (x : Int) (h0 : 0 ≤ x) (hl : (bits x).length ≤ 1000000000) (d : Nat) : ∀ (m : Nat) (out : List Int), d + 32 * m = (bits x).length + 32 ∨ ((bits x).length ≤ 32 * m ∧ 32 * m < (bits x).length + 32) → d ≤ (bits x).length + 32 → 32 * m < (bits x).length + 32 → out.length = m → Lim out → val out = bval ((bits x).take (32 * m)) → Ev (fun k => gudgeonref01_Limbs.l0 k (bits x) out ((32 * m : Nat) : Int)) (dig x) := by
  induction d using Nat.strongRecOn with
  | _ d ih =>
    intro m out hd hd2 hm ho hL hv
    by_cases hend : (bits x).length ≤ 32 * m
    · rw [List.take_of_length_le hend, bval_bits h0] at hv
      have e : out = dig x := by
        refine lim_inj _ _ hL (dig_lim _) ?_ (by rw [hv, val_dig h0])
        have hlt : x < pw m := by
          rw [pw_p2]
          exact lt_of_bits_length h0 hend
        have h1 := dig_length_le h0 hlt
        by_cases h2 : m ≤ (dig x).length
        · omega
        · have h3 : x < pw (m - 1) := lt_of_dig_length h0 (by omega)
          rw [pw_p2] at h3
          have h4 := bits_length_le h0 h3
          omega
      refine Ev.step (f := fun _ => some _) (fun k => ?_) (Ev.now _)
      simp only [gudgeonref01_Limbs.l0]
      rw [if_neg (by omega), e]
    · have hwl : ((bits x).take (32 * m)).length = 32 * m := by rw [List.length_take]; omega
      have hW : bval (((bits x).drop (32 * m)).take 32) < 4294967296 := by
        have h1 := bval_lt (((bits x).drop (32 * m)).take 32)
        have h2 := p2_le (show (((bits x).drop (32 * m)).take 32).length ≤ 32 by rw [List.length_take]; omega)
        have e : p2 32 = 4294967296 := rfl
        omega
      have hW0 := bval_nonneg (((bits x).drop (32 * m)).take 32)
      have hnext := ih (d - 32) (by omega) (m + 1) (out ++ [bval (((bits x).drop (32 * m)).take 32)]) (by omega) (by omega) (by omega) (by simp [ho]) (hL.append (Lim.cons hW0 hW Lim.nil)) (by
        rw [val_append, ho, hv, show val [bval (((bits x).drop (32 * m)).take 32)] = bval (((bits x).drop (32 * m)).take 32) by simp [val], show 32 * (m + 1) = 32 * m + 32 by omega, List.take_add, bval_append, hwl, pw_p2])
      have h1 := Limbs_l1 (bits x) hl m (by omega) out (by omega) _ hnext 32 (Nat.le_refl _)
      rw [List.drop_eq_nil_of_le (by rw [List.length_take]; omega)] at h1
      refine Ev.step (fun k => ?_) h1
      simp only [gudgeonref01_Limbs.l0]
      rw [if_pos (by omega), w64 (by omega) (by omega), show ((32 * m : Nat) : Int) + 31 = ((32 * m + 32 : Nat) : Int) - 1 by omega]
      rfl
theorem bits_bits (x : Int) (h0 : 0 ≤ x) : bits (bval (bits x)) = bits x := by rw [bval_bits h0]
theorem Limbs_ev (x : Int) (h0 : 0 ≤ x) (hl : (bits x).length ≤ 1000000000) : Ev (fun k => gudgeonref01_Limbs.f k (bits x)) (dig x) := by
  have ht := btrim_ev (bits x) (by omega)
  rw [bits_bits x h0] at ht
  have := Limbs_l0 x h0 hl ((bits x).length + 32) 0 [] (by omega) (by omega) (by omega) rfl Lim.nil (by simp [val, bval])
  exact Ev.congr (fun k => rfl) (Ev.bind ht this)
/-! ### the reference's functions of limbs -/
def SZ (l : List Int) : Prop := l.length ≤ 10000
theorem bits_len_of (l : List Int) (hL : Lim l) (hs : SZ l) : (bits (val l)).length ≤ 320000 := by
  have h := val_lt hL
  rw [pw_p2] at h
  have := bits_length_le (val_nonneg hL) h
  unfold SZ at hs
  omega
theorem refNorm_ev (l : List Int) (hL : Lim l) (hs : SZ l) : Ev (fun k => gudgeonref01_Norm.f k l) (dig (val l)) := by
  have h1 := bits_len_of l hL hs
  have hs' := hs
  unfold SZ at hs'
  exact Ev.congr (fun k => rfl) (Ev.bind (Bits_ev l hL (by omega)) (Ev.bind (f := fun _ t => some t) (Limbs_ev _ (val_nonneg hL) (by omega)) (Ev.now _)))
theorem refAdd_ev (a b : List Int) (ha : Lim a) (hb : Lim b) (sa : SZ a) (sb : SZ b) : Ev (fun k => gudgeonref01_Add.f k a b) (dig (val a + val b)) := by
  have h1 := bits_len_of a ha sa
  have h2 := bits_len_of b hb sb
  have va := val_nonneg ha
  have vb := val_nonneg hb
  have sa' := sa
  have sb' := sb
  unfold SZ at sa' sb'
  have hadd := badd_ev (bits (val a)) (bits (val b)) (by unfold LB; omega) (by unfold LB; omega)
  rw [bval_bits va, bval_bits vb] at hadd
  have hl : (bits (val a + val b)).length ≤ 320001 := by
    have e1 := lt_of_bits_length va h1
    have e2 := lt_of_bits_length vb h2
    exact bits_length_le (by omega) (by rw [p2_succ]; omega)
  exact Ev.congr (fun k => rfl) (Ev.bind (Bits_ev a ha (by omega)) (Ev.bind (Bits_ev b hb (by omega)) (Ev.bind hadd (Ev.bind (f := fun _ t => some t) (Limbs_ev _ (by omega) (by omega)) (Ev.now _)))))
theorem refMul_ev (a b : List Int) (ha : Lim a) (hb : Lim b) (sa : SZ a) (sb : SZ b) : Ev (fun k => gudgeonref01_Mul.f k a b) (dig (val a * val b)) := by
  have h1 := bits_len_of a ha sa
  have h2 := bits_len_of b hb sb
  have va := val_nonneg ha
  have vb := val_nonneg hb
  have sa' := sa
  have sb' := sb
  unfold SZ at sa' sb'
  have hmul := bmul_ev (bits (val a)) (bits (val b)) (by omega) (by omega)
  rw [bval_bits va, bval_bits vb] at hmul
  have h0 := Int.mul_nonneg va vb
  have hl := bits_length_le h0 (bmul_bound va (lt_of_bits_length va h1) vb (lt_of_bits_length vb h2))
  exact Ev.congr (fun k => rfl) (Ev.bind (Bits_ev a ha (by omega)) (Ev.bind (Bits_ev b hb (by omega)) (Ev.bind hmul (Ev.bind (f := fun _ t => some t) (Limbs_ev _ h0 (by omega)) (Ev.now _)))))
theorem refCmp_ev (a b : List Int) (ha : Lim a) (hb : Lim b) (sa : SZ a) (sb : SZ b) : Ev (fun k => gudgeonref01_Cmp.f k a b) (cmpI (val a) (val b)) := by
  have h1 := bits_len_of a ha sa
  have h2 := bits_len_of b hb sb
  have va := val_nonneg ha
  have vb := val_nonneg hb
  have sa' := sa
  have sb' := sb
  unfold SZ at sa' sb'
  have hc := bcmp_ev (bits (val a)) (bits (val b)) (by unfold LB; omega) (by unfold LB; omega)
  rw [bval_bits va, bval_bits vb] at hc
  exact Ev.congr (fun k => rfl) (Ev.bind (Bits_ev a ha (by omega)) (Ev.bind (Bits_ev b hb (by omega)) (Ev.bind (f := fun _ t => some t) hc (Ev.now _))))
theorem refSub_ev (a b : List Int) (ha : Lim a) (hb : Lim b) (sa : SZ a) (sb : SZ b) : Ev (fun k => gudgeonref01_Sub.f k a b) (if val a < val b then ([], 6) else (dig (val a - val b), 0)) := by
  have h1 := bits_len_of a ha sa
  have h2 := bits_len_of b hb sb
  have va := val_nonneg ha
  have vb := val_nonneg hb
  have sa' := sa
  have sb' := sb
  unfold SZ at sa' sb'
  have hc := bcmp_ev (bits (val a)) (bits (val b)) (by unfold LB; omega) (by unfold LB; omega)
  rw [bval_bits va, bval_bits vb] at hc
  refine Ev.congr (fun k => rfl) (Ev.bind (Bits_ev a ha (by omega)) (Ev.bind (Bits_ev b hb (by omega)) (Ev.bind hc ?_)))
  by_cases hlt : val a < val b
  · refine Ev.congr (f := fun _ => some _) (fun k => ?_) (Ev.now _)
    unfold cmpI
    rw [if_pos hlt, if_pos hlt, if_pos (by decide)]
  · have hs := bsub_ev (bits (val a)) (bits (val b)) (by unfold LB; omega) (by unfold LB; omega) (by rw [bval_bits va, bval_bits vb]; omega)
    rw [bval_bits va, bval_bits vb] at hs
    have hl : (bits (val a - val b)).length ≤ 320000 := bits_length_le (by omega) (by have := lt_of_bits_length va h1; omega)
    rw [if_neg hlt]
    refine Ev.congr (fun k => by
      unfold cmpI
      rw [if_neg hlt, if_neg (by split <;> decide)]) (Ev.bind hs (Ev.bind (f := fun _ t => some (t, (0 : Int))) (Limbs_ev (val a - val b) (by omega) (by omega)) (Ev.now _)))
end Go.Proofs.YtlfpnohpcemkgaaDoor.V
/- Knuth's division by limbs: what take, give, digit and DivMod compute; the greatest common divisor. -/
namespace Go.Proofs.YtlfpnohpcemkgaaDoor.V
set_option linter.unusedVariables false
set_option linter.unusedSimpArgs false
open Go.RowKit Go.Proofs.YtlfpnohpcemkgaaDoor.PA Go.Proofs.YtlfpnohpcemkgaaDoor.H Go.Proofs.YtlfpnohpcemkgaaDoorW.PrintWords Go.Proofs.YtlfpnohpcemkgaaDoorW.PrintLast Go.Proofs.YtlfpnohpcemkgaaDoorW.PrintMore

theorem and_low {x : Int} (h0 : 0 ≤ x) (h1 : x < 18446744073709551616) : Go.bits .and .u64 x 4294967295 = x % 4294967296 :=
  bits_mask .u64 64 (by decide) wraps_u64 32 (by decide) x h0 (by omega)
theorem step_take {U V0 Pi q v vp c b cl ch b' r u : Int} (h : U = V0 - q * vp + Pi * (c + b)) (e1 : cl + 4294967296 * ch = c + q * v) (e2 : r - 4294967296 * b' = u - cl - b) : U + Pi * (r - u) = V0 - q * (vp + Pi * v) + (4294967296 * Pi) * (ch + b') := by
  subst h
  grind
theorem take_l0 (u0 v : List Int) (q : Int) (hv : Lim v) (hq : 0 ≤ q ∧ q < 4294967296) (hnv : v.length < 1000000000) (hu0 : Lim u0) (hl0 : u0.length = v.length + 1) (d : Nat) : ∀ (i : Nat) (u : List Int) (c b : Int), i + d = v.length → u.length = v.length + 1 → Lim u → 0 ≤ c → c < 4294967296 → 0 ≤ b → b ≤ 1 → val u = val u0 - q * val (v.take i) + pw i * (c + b) →
    ∃ u', Ev (fun k => nat_take.l0 k u v q c b (v.length : Int) (i : Int)) (decide (val u0 < q * val v), u') ∧ u'.length = v.length + 1 ∧ Lim u' ∧ val u' = val u0 - q * val v + (if val u0 < q * val v then pw (v.length + 1) else 0) := by
  induction d with
  | zero =>
    intro i u c b hi hl hL c0 c1 b0 b1 he
    obtain rfl : i = v.length := by omega
    have hp : v.length < u.length := by omega
    have gu := hL.get _ hp
    rw [List.take_of_length_le (by omega)] at he
    have hset : (u.set v.length ((u[v.length] - c - b) % 4294967296)).length = v.length + 1 := by simpa using hl
    have hLs : Lim (u.set v.length ((u[v.length] - c - b) % 4294967296)) := hL.set _ (by omega) (by omega)
    have hval : val (u.set v.length ((u[v.length] - c - b) % 4294967296)) = val u0 - q * val v - pw (v.length + 1) * ((u[v.length] - c - b) / 4294967296) := by
      rw [val_set _ _ _ hp, he, pw_succ]
      have e := Int.mul_ediv_add_emod (u[v.length] - c - b) 4294967296
      generalize (u[v.length] - c - b) / 4294967296 = f at *
      generalize (u[v.length] - c - b) % 4294967296 = g at *
      generalize u[v.length] = z at *
      grind
    have h1 := val_lt hLs
    have h2 := val_nonneg hLs
    have h3 := val_nonneg hu0
    have h4 := val_lt hu0
    rw [hset] at h1
    have hneg : (u[v.length] - c - b < 0) ↔ val u0 < q * val v := by
      by_cases hn : u[v.length] - c - b < 0
      · have : (u[v.length] - c - b) / 4294967296 = -1 := by omega
        rw [this] at hval
        constructor <;> intro <;> omega
      · have : (u[v.length] - c - b) / 4294967296 = 0 := by omega
        rw [this] at hval
        constructor <;> intro <;> omega
    have e1 : IntKind.u64.wrap ((IntKind.u64.wrap (u[v.length] - c)) - b) = (u[v.length] - c - b) % 18446744073709551616 := by rw [u64e, u64e]; omega
    refine ⟨u.set v.length ((u[v.length] - c - b) % 4294967296), Ev.step (f := fun _ => some _) (fun k => ?_) (Ev.now _), hset, hLs, ?_⟩
    · simp only [nat_take.l0]
      rw [if_neg (by omega), if_pos (by omega), if_pos (by omega), rd_get _ _ hp, u64 (x := u[v.length]) gu.1 (by omega), e1, Int.toNat_natCast]
      congr 2
      · rw [Bool.eq_iff_iff]
        simp only [beq_iff_eq, decide_eq_true_eq]
        rw [← hneg]
        constructor <;> intro <;> omega
      · congr 1; omega
    · rw [hval]
      by_cases hn : u[v.length] - c - b < 0
      · rw [if_pos (hneg.1 hn), show (u[v.length] - c - b) / 4294967296 = -1 by omega]; omega
      · rw [if_neg (fun h => hn (hneg.2 h)), show (u[v.length] - c - b) / 4294967296 = 0 by omega]; omega
  | succ d ih =>
    intro i u c b hi hl hL c0 c1 b0 b1 he
    have hiv : i < v.length := by omega
    have hiu : i < u.length := by omega
    have gv := hv.get i hiv
    have gu := hL.get i hiu
    have hm := mul_bd32 hq gv
    have e1 : IntKind.u64.wrap (c + IntKind.u64.wrap (q * IntKind.u64.wrap v[i])) = c + q * v[i] := by
      rw [u64 (x := v[i]) (by omega) (by omega), u64 (x := q * v[i]) (by omega) (by omega), u64 (by omega) (by omega)]
    have e2 : IntKind.u64.wrap ((IntKind.u64.wrap (u[i] - (c + q * v[i]) % 4294967296)) - b) = (u[i] - (c + q * v[i]) % 4294967296 - b) % 18446744073709551616 := by rw [u64e, u64e]; omega
    have hstep := step_take (ch := (c + q * v[i]) / 4294967296) (b' := (u[i] - (c + q * v[i]) % 4294967296 - b) % 18446744073709551616 / 9223372036854775808) (r := (u[i] - (c + q * v[i]) % 4294967296 - b) % 18446744073709551616 % 4294967296) (u := u[i]) (cl := (c + q * v[i]) % 4294967296) (v := v[i]) he (by omega) (by omega)
    obtain ⟨u', h1, h2⟩ := ih (i + 1) (u.set i ((u[i] - (c + q * v[i]) % 4294967296 - b) % 18446744073709551616 % 4294967296)) ((c + q * v[i]) / 4294967296) ((u[i] - (c + q * v[i]) % 4294967296 - b) % 18446744073709551616 / 9223372036854775808) (by omega) (by simpa using hl) (hL.set _ (by omega) (by omega)) (by omega) (by omega) (by omega) (by omega) (by
      rw [val_set _ _ _ hiu, val_take_succ _ _ hiv, pw_succ]
      exact hstep)
    refine ⟨u', Ev.step (fun k => ?_) h1, h2⟩
    simp only [nat_take.l0]
    rw [if_pos (by omega), if_pos (by omega), if_pos (by omega), if_pos (by omega), rd_get _ _ hiv, rd_get _ _ hiu, e1, and_low (by omega) (by omega), u64 (x := u[i]) (by omega) (by omega), e2, w64 (by omega) (by omega), Int.toNat_natCast]
    rfl
theorem take_ev (u v : List Int) (q : Int) (hu : Lim u) (hv : Lim v) (hq : 0 ≤ q ∧ q < 4294967296) (hnv : v.length < 1000000000) (hl : u.length = v.length + 1) :
    ∃ u', Ev (fun k => nat_take.f k u v q) (decide (val u < q * val v), u') ∧ u'.length = v.length + 1 ∧ Lim u' ∧ val u' = val u - q * val v + (if val u < q * val v then pw (v.length + 1) else 0) := by
  obtain ⟨u', h1, h2⟩ := take_l0 u v q hv hq hnv hu hl v.length 0 u 0 0 (by omega) hl hu (by omega) (by omega) (by omega) (by omega) (by simp [val])
  exact ⟨u', Ev.congr (fun k => rfl) h1, h2⟩
theorem step_give {U V0 Pi v vp c ch r u : Int} (h : U + Pi * c = V0 + vp) (e : r + 4294967296 * ch = c + (u + v)) : U + Pi * (r - u) + (4294967296 * Pi) * ch = V0 + (vp + Pi * v) := by grind
theorem give_l0 (u0 v : List Int) (hv : Lim v) (hnv : v.length < 1000000000) (hbig : pw (v.length + 1) ≤ val u0 + val v) (hu0 : val u0 < pw (v.length + 1)) (d : Nat) : ∀ (i : Nat) (u : List Int) (c : Int), i + d = v.length → u.length = v.length + 1 → Lim u → 0 ≤ c → c ≤ 1 → val u + pw i * c = val u0 + val (v.take i) →
    ∃ u', Ev (fun k => nat_give.l0 k u v c (v.length : Int) (i : Int)) u' ∧ u'.length = v.length + 1 ∧ Lim u' ∧ val u' = val u0 + val v - pw (v.length + 1) := by
  induction d with
  | zero =>
    intro i u c hi hl hL c0 c1 he
    obtain rfl : i = v.length := by omega
    have hp : v.length < u.length := by omega
    have gu := hL.get _ hp
    rw [List.take_of_length_le (by omega)] at he
    have hset : (u.set v.length ((u[v.length] + c) % 4294967296)).length = v.length + 1 := by simpa using hl
    have hLs : Lim (u.set v.length ((u[v.length] + c) % 4294967296)) := hL.set _ (by omega) (by omega)
    have hval : val (u.set v.length ((u[v.length] + c) % 4294967296)) = val u0 + val v - pw (v.length + 1) * ((u[v.length] + c) / 4294967296) := by
      rw [val_set _ _ _ hp, pw_succ]
      have e := Int.mul_ediv_add_emod (u[v.length] + c) 4294967296
      generalize (u[v.length] + c) / 4294967296 = f at *
      generalize (u[v.length] + c) % 4294967296 = g at *
      generalize u[v.length] = z at *
      grind
    have h1 := val_lt hLs
    have h2 := val_lt hv
    rw [hset] at h1
    have h3 := pw_succ v.length
    have h4 := pw_pos v.length
    have hone : (u[v.length] + c) / 4294967296 = 1 := by
      have : (u[v.length] + c) / 4294967296 = 0 ∨ (u[v.length] + c) / 4294967296 = 1 := by omega
      rcases this with h0 | h0
      · rw [h0] at hval; omega
      · exact h0
    refine ⟨u.set v.length ((u[v.length] + c) % 4294967296), Ev.step (f := fun _ => some _) (fun k => ?_) (Ev.now _), hset, hLs, by rw [hval, hone]; omega⟩
    simp only [nat_give.l0]
    rw [if_neg (by omega), if_pos (by omega), if_pos (by omega), rd_get _ _ hp, Int.toNat_natCast]
    congr 2
    omega
  | succ d ih =>
    intro i u c hi hl hL c0 c1 he
    have hiv : i < v.length := by omega
    have hiu : i < u.length := by omega
    have gv := hv.get i hiv
    have gu := hL.get i hiu
    obtain ⟨u', h1, h2⟩ := ih (i + 1) (u.set i ((c + (u[i] + v[i])) % 4294967296)) ((c + (u[i] + v[i])) / 4294967296) (by omega) (by simpa using hl) (hL.set _ (by omega) (by omega)) (by omega) (by omega) (by
      rw [val_set _ _ _ hiu, val_take_succ _ _ hiv, pw_succ]
      exact step_give he (by omega))
    refine ⟨u', Ev.step (fun k => ?_) h1, h2⟩
    simp only [nat_give.l0]
    rw [if_pos (by omega), if_pos (by omega), if_pos (by omega), if_pos (by omega), rd_get _ _ hiv, rd_get _ _ hiu, u64 (x := u[i]) (by omega) (by omega), u64 (x := v[i]) (by omega) (by omega), u64 (x := u[i] + v[i]) (by omega) (by omega), u64 (by omega) (by omega), w64 (by omega) (by omega), Int.toNat_natCast]
    rfl
theorem give_ev (u v : List Int) (hu : Lim u) (hv : Lim v) (hnv : v.length < 1000000000) (hl : u.length = v.length + 1) (hbig : pw (v.length + 1) ≤ val u + val v) :
    ∃ u', Ev (fun k => nat_give.f k u v) u' ∧ u'.length = v.length + 1 ∧ Lim u' ∧ val u' = val u + val v - pw (v.length + 1) := by
  have h0 := val_lt hu
  rw [hl] at h0
  obtain ⟨u', h1, h2⟩ := give_l0 u v hv hnv hbig h0 v.length 0 u 0 (by omega) hl hu (by omega) (by omega) (by simp [val])
  exact ⟨u', Ev.congr (fun k => rfl) h1, h2⟩

/-! ### one limb of a quotient -/
theorem digit_j1 (u v : List Int) (q : Int) (hu : Lim u) (hv : Lim v) (hnv : v.length < 1000000000) (hl : u.length = v.length + 1) (hq : 0 ≤ q ∧ q < 4294967296) (hv0 : 0 < val v) (h1 : (q - 1) * val v ≤ val u) (h2 : val u < (q + 1) * val v) :
    ∃ u', Ev (fun k => nat_digit.j1 k u v q) (val u / val v, u') ∧ u'.length = v.length + 1 ∧ Lim u' ∧ val u' = val u % val v := by
  obtain ⟨u1, t1, t2, t3, t4⟩ := take_ev u v q hu hv hq hnv hl
  have e1 : (q - 1) * val v = q * val v - val v := by grind
  have e2 : (q + 1) * val v = q * val v + val v := by grind
  by_cases hneg : val u < q * val v
  · rw [if_pos hneg] at t4
    have hq1 : 1 ≤ q := by
      have h0 := val_nonneg hu
      by_cases hz : q = 0
      · subst hz; omega
      · omega
    obtain ⟨u2, g1, g2, g3, g4⟩ := give_ev u1 v t3 hv hnv t2 (by omega)
    have hd := div_unique hv0 (a := val u) (q := q - 1) (r := val u2) (by rw [g4, t4]; omega) (val_nonneg g3) (by omega)
    refine ⟨u2, ?_, g2, g3, hd.2.symm⟩
    refine Ev.step (fun k => by simp only [nat_digit.j1]; rfl) (Ev.bind t1 ?_)
    simp only [decide_eq_true hneg, if_true]
    refine Ev.congr (fun k => rfl) (Ev.bind g1 ?_)
    rw [hd.1, u64 (by omega) (by omega), Int.emod_eq_of_lt (by omega) (by omega)]
    exact Ev.now _
  · rw [if_neg hneg] at t4
    have hd := div_unique hv0 (a := val u) (q := q) (r := val u1) (by rw [t4]; omega) (val_nonneg t3) (by omega)
    refine ⟨u1, ?_, t2, t3, hd.2.symm⟩
    refine Ev.step (fun k => by simp only [nat_digit.j1]; rfl) (Ev.bind t1 ?_)
    rw [decide_eq_false hneg]
    simp only [Bool.false_eq_true, if_false]
    rw [hd.1, Int.emod_eq_of_lt (by omega) (by omega)]
    exact Ev.now _
/-- The truncated quotient is no less than the quotient. -/
theorem est_le {Q T Vt P U V : Int} (hP : 0 < P) (hQ : 0 ≤ Q) (h1 : Q * V ≤ U) (h2 : U < (T + 1) * P) (h3 : Vt * P ≤ V) : Q * Vt ≤ T := by
  have a1 : Q * (Vt * P) ≤ Q * V := Int.mul_le_mul_of_nonneg_left h3 hQ
  have a2 : (Q * Vt) * P < (T + 1) * P := by rw [Int.mul_assoc]; omega
  have := Int.lt_of_mul_lt_mul_right a2 (Int.le_of_lt hP)
  omega
/-- A quotient that fits three limbs by two is at most one too great. -/
theorem est_ge {q T V2 P U V : Int} (hP : 0 < P) (hq : 0 ≤ q) (hqV : q - 1 ≤ V2) (h1 : q * V2 ≤ T) (h2 : T * P ≤ U) (h3 : V ≤ (V2 + 1) * P) (hV : 0 ≤ V) (hU : 0 ≤ U) : (q - 1) * V ≤ U := by
  by_cases hz : q = 0
  · subst hz
    have : (0 - 1) * V = -V := by grind
    omega
  · have a1 : (q - 1) * V ≤ (q - 1) * ((V2 + 1) * P) := Int.mul_le_mul_of_nonneg_left h3 (by omega)
    have a2 : (q - 1) * (V2 + 1) ≤ T := by
      have : (q - 1) * (V2 + 1) = q * V2 - V2 + q - 1 := by grind
      omega
    have a3 : (q - 1) * (V2 + 1) * P ≤ T * P := Int.mul_le_mul_of_nonneg_right a2 (Int.le_of_lt hP)
    rw [Int.mul_assoc] at a3
    omega
set_option maxHeartbeats 2000000 in
theorem digit_l0 (u v : List Int) (hu : Lim u) (hv : Lim v) (hnv : v.length < 1000000000) (m : Nat) (hm : v.length = m + 2) (hl : u.length = m + 3) (top : Int) (htop : top = u[m + 2] * 4294967296 + u[m + 1]) (hvt : 2147483648 ≤ v[m + 1]) (hlt : val u < 4294967296 * val v) (hQ : 0 ≤ val u / val v) (d : Nat) : ∀ (q r : Int), q.toNat < d → 0 ≤ q → q < 4294967296 → r = top - q * v[m + 1] → 0 ≤ r → r < 8589934592 → val u / val v ≤ q →
    ∃ u', Ev (fun k => nat_digit.l0 k u v (v.length : Int) q r) (val u / val v, u') ∧ u'.length = v.length + 1 ∧ Lim u' ∧ val u' = val u % val v := by
  have gv1 := hv.get (m + 1) (by omega)
  have gv2 := hv.get m (by omega)
  have gu0 := hu.get m (by omega)
  have gu1 := hu.get (m + 1) (by omega)
  have gu2 := hu.get (m + 2) (by omega)
  have dv : val v = val (v.take m) + pw m * (v[m] + 4294967296 * v[m + 1]) := by
    rw [val_take_drop v m (by omega), val_drop_cons v m (by omega), val_drop_cons v (m + 1) (by omega), List.drop_eq_nil_of_le (by omega)]
    simp [val]
  have du : val u = val (u.take m) + pw m * (u[m] + 4294967296 * (u[m + 1] + 4294967296 * u[m + 2])) := by
    rw [val_take_drop u m (by omega), val_drop_cons u m (by omega), val_drop_cons u (m + 1) (by omega), val_drop_cons u (m + 2) (by omega), List.drop_eq_nil_of_le (by omega)]
    simp [val]
  have lv0 := val_nonneg (hv.take m)
  have lv1 := val_lt (hv.take m)
  have lu0 := val_nonneg (hu.take m)
  have lu1 := val_lt (hu.take m)
  rw [List.length_take, Nat.min_eq_left (by omega)] at lv1 lu1
  have hP := pw_pos m
  have hv0 : 0 < val v := by
    have : pw m * 1 ≤ pw m * (v[m] + 4294967296 * v[m + 1]) := Int.mul_le_mul_of_nonneg_left (by omega) (Int.le_of_lt hP)
    omega
  -- the three highest limbs, and the two of the divisor
  have hU1 : val u < ((top * 4294967296 + u[m]) + 1) * pw m := by
    have e : ((top * 4294967296 + u[m]) + 1) * pw m = pw m * (u[m] + 4294967296 * (u[m + 1] + 4294967296 * u[m + 2])) + pw m := by rw [htop]; grind
    omega
  have hU2 : (top * 4294967296 + u[m]) * pw m ≤ val u := by
    have e : (top * 4294967296 + u[m]) * pw m = pw m * (u[m] + 4294967296 * (u[m + 1] + 4294967296 * u[m + 2])) := by rw [htop]; grind
    omega
  have hV1 : (v[m + 1] * 4294967296 + v[m]) * pw m ≤ val v := by
    have e : (v[m + 1] * 4294967296 + v[m]) * pw m = pw m * (v[m] + 4294967296 * v[m + 1]) := by grind
    omega
  have hV2 : val v ≤ ((v[m + 1] * 4294967296 + v[m]) + 1) * pw m := by
    have e : ((v[m + 1] * 4294967296 + v[m]) + 1) * pw m = pw m * (v[m] + 4294967296 * v[m + 1]) + pw m := by grind
    omega
  have hQV : (val u / val v) * val v ≤ val u := Int.ediv_mul_le _ (by omega)
  have hUQ : val u < (val u / val v + 1) * val v := Int.lt_ediv_add_one_mul_self _ hv0
  have hu0 := val_nonneg hu
  induction d with
  | zero => intro q r hd; omega
  | succ d ih =>
    intro q r hd q0 q1 hr r0 r1 hq
    have hm2 := mul_bd32 ⟨q0, q1⟩ gv2
    -- the loop ends here
    have hend : Aside0 (q * v[m] ≤ r * 4294967296 + u[m] → ∃ u', Ev (fun k => nat_digit.j1 k u v q) (val u / val v, u') ∧ u'.length = v.length + 1 ∧ Lim u' ∧ val u' = val u % val v) := by
      refine ⟨fun hfit => ?_⟩
      refine digit_j1 u v q hu hv hnv (by omega) ⟨q0, q1⟩ hv0 ?_ ?_
      · refine est_ge hP q0 (by omega) ?_ hU2 hV2 (by omega) hu0
        have : q * (v[m + 1] * 4294967296 + v[m]) = (top - r) * 4294967296 + q * v[m] := by rw [hr]; grind
        omega
      · have : (val u / val v + 1) * val v ≤ (q + 1) * val v := Int.mul_le_mul_of_nonneg_right (by omega) (by omega)
        omega
    by_cases hr32 : r < 4294967296
    · by_cases hbig : q * v[m] > r * 4294967296 + u[m]
      · -- one less
        have hq1 : 1 ≤ q := by
          by_cases hz : q = 0
          · subst hz; omega
          · omega
        have hQq : val u / val v ≤ q - 1 := by
          by_cases hz : val u / val v ≤ q - 1
          · exact hz
          · have e : val u / val v = q := by omega
            have h := est_le hP hQ hQV hU1 hV1
            rw [e] at h
            have : q * (v[m + 1] * 4294967296 + v[m]) = (top - r) * 4294967296 + q * v[m] := by rw [hr]; grind
            omega
        obtain ⟨u', h1, h2⟩ := ih (q - 1) (r + v[m + 1]) (by omega) (by omega) (by omega) (by rw [hr]; grind) (by omega) (by omega) hQq
        refine ⟨u', Ev.step (fun k => ?_) h1, h2⟩
        simp only [nat_digit.l0]
        rw [if_pos hr32, w64 (x := (v.length : Int) - 2) (by omega) (by omega), w64 (x := (v.length : Int) - 1) (by omega) (by omega), show (v.length : Int) - 2 = (m : Int) by omega, show (v.length : Int) - 1 = ((m + 1 : Nat) : Int) by omega, if_pos (by omega), if_pos (by omega), if_pos (by omega), rd_get _ _ (show m < v.length by omega), rd_get _ _ (show m < u.length by omega), rd_get _ _ (show m + 1 < v.length by omega), u64 (x := v[m]) (by omega) (by omega), u64 (x := u[m]) (by omega) (by omega), u64 (x := v[m + 1]) (by omega) (by omega), u64 (x := q * v[m]) (by omega) (by omega), u64 (x := r * 4294967296) (by omega) (by omega), or_join ⟨r0, hr32⟩ gu0, if_pos hbig, if_pos (by omega), if_pos (by omega), u64 (by omega) (by omega), u64 (by omega) (by omega)]
      · obtain ⟨u', h1, h2⟩ := hend.out (by omega)
        refine ⟨u', Ev.step (fun k => ?_) h1, h2⟩
        simp only [nat_digit.l0]
        rw [if_pos hr32, w64 (x := (v.length : Int) - 2) (by omega) (by omega), show (v.length : Int) - 2 = (m : Int) by omega, if_pos (by omega), if_pos (by omega), if_pos (by omega), rd_get _ _ (show m < v.length by omega), rd_get _ _ (show m < u.length by omega), u64 (x := v[m]) (by omega) (by omega), u64 (x := u[m]) (by omega) (by omega), u64 (x := q * v[m]) (by omega) (by omega), u64 (x := r * 4294967296) (by omega) (by omega), or_join ⟨r0, hr32⟩ gu0, if_neg hbig]
    · obtain ⟨u', h1, h2⟩ := hend.out (by omega)
      refine ⟨u', Ev.step (fun k => ?_) h1, h2⟩
      simp only [nat_digit.l0]
      rw [if_neg hr32]
theorem mn_eq (a b : Int) : mn a b = min a b := by unfold mn; split <;> omega
set_option maxHeartbeats 2000000 in
theorem digit_ev (u v : List Int) (hu : Lim u) (hv : Lim v) (hnv : v.length < 1000000000) (h2 : 2 ≤ v.length) (hl : u.length = v.length + 1) (htop : 2147483648 ≤ v.getD (v.length - 1) 0) (hlt : val u < 4294967296 * val v) :
    ∃ u', Ev (fun k => nat_digit.f k u v) (val u / val v, u') ∧ u'.length = v.length + 1 ∧ Lim u' ∧ val u' = val u % val v := by
  obtain ⟨m, hm⟩ : ∃ m, v.length = m + 2 := ⟨v.length - 2, by omega⟩
  have gv1 := hv.get (m + 1) (by omega)
  have gu1 := hu.get (m + 1) (by omega)
  have gu2 := hu.get (m + 2) (by omega)
  rw [hm, show m + 2 - 1 = m + 1 by omega, getD_get _ _ (show m + 1 < v.length by omega)] at htop
  have hP := pw_pos (m + 1)
  have dv : val v = val (v.take (m + 1)) + pw (m + 1) * v[m + 1] := by
    rw [val_take_drop v (m + 1) (by omega), val_drop_cons v (m + 1) (by omega), List.drop_eq_nil_of_le (by omega)]
    simp [val]
  have du : val u = val (u.take (m + 1)) + pw (m + 1) * (u[m + 1] + 4294967296 * u[m + 2]) := by
    rw [val_take_drop u (m + 1) (by omega), val_drop_cons u (m + 1) (by omega), val_drop_cons u (m + 2) (by omega), List.drop_eq_nil_of_le (by omega)]
    simp [val]
  have lv0 := val_nonneg (hv.take (m + 1))
  have lv1 := val_lt (hv.take (m + 1))
  have lu0 := val_nonneg (hu.take (m + 1))
  have lu1 := val_lt (hu.take (m + 1))
  rw [List.length_take, Nat.min_eq_left (by omega)] at lv1 lu1
  have hv0 : 0 < val v := by
    have : pw (m + 1) * 1 ≤ pw (m + 1) * v[m + 1] := Int.mul_le_mul_of_nonneg_left (by omega) (Int.le_of_lt hP)
    omega
  have hQ : 0 ≤ val u / val v := Int.ediv_nonneg (val_nonneg hu) (by omega)
  obtain ⟨top, htp⟩ : ∃ t, t = u[m + 2] * 4294967296 + u[m + 1] := ⟨_, rfl⟩
  have htp0 : 0 ≤ top := by omega
  have htp1 : top < 18446744073709551616 := by omega
  have hQtop : (val u / val v) * v[m + 1] ≤ top := by
    refine est_le hP hQ (Int.ediv_mul_le _ (by omega)) ?_ (V := val v) ?_
    · have e : (top + 1) * pw (m + 1) = pw (m + 1) * (u[m + 1] + 4294967296 * u[m + 2]) + pw (m + 1) := by rw [htp]; grind
      omega
    · rw [Int.mul_comm]; omega
  have hQ1 : val u / val v ≤ top / v[m + 1] := Int.le_ediv_of_mul_le (by omega) hQtop
  have hQ2 : val u / val v < 4294967296 := Int.ediv_lt_of_lt_mul hv0 hlt
  have hd0 : 0 ≤ top / v[m + 1] := Int.ediv_nonneg htp0 (by omega)
  have hd1 : top / v[m + 1] < 18446744073709551616 := by
    have : top / v[m + 1] ≤ top := Int.ediv_le_self _ htp0
    omega
  -- the first guess
  obtain ⟨q, hq⟩ : ∃ q, q = mn (top / v[m + 1]) 4294967295 := ⟨_, rfl⟩
  have hq' := hq
  rw [mn_eq] at hq'
  have q0 : 0 ≤ q := by omega
  have q1 : q < 4294967296 := by omega
  have hqm := mul_bd32 ⟨q0, q1⟩ gv1
  have hqt : q * v[m + 1] ≤ top := by
    have h1 : q * v[m + 1] ≤ (top / v[m + 1]) * v[m + 1] := Int.mul_le_mul_of_nonneg_right (by omega) (by omega)
    have h2 := Int.ediv_mul_le top (show v[m + 1] ≠ 0 by omega)
    omega
  -- the limb above is not above the divisor's highest
  have hu2 : u[m + 2] ≤ v[m + 1] := by
    by_cases h : u[m + 2] ≤ v[m + 1]
    · exact h
    · have h1 : pw (m + 1) * (4294967296 * (v[m + 1] + 1)) ≤ pw (m + 1) * (u[m + 1] + 4294967296 * u[m + 2]) := Int.mul_le_mul_of_nonneg_left (by omega) (Int.le_of_lt hP)
      have h2 : pw (m + 1) * (4294967296 * (v[m + 1] + 1)) = 4294967296 * (pw (m + 1) * v[m + 1]) + 4294967296 * pw (m + 1) := by grind
      omega
  have hr1 : top - q * v[m + 1] < 8589934592 := by
    by_cases h : top / v[m + 1] ≤ 4294967295
    · have e : q = top / v[m + 1] := by omega
      have h3 := Int.emod_lt_of_pos top (show 0 < v[m + 1] by omega)
      have h4 := Int.mul_ediv_add_emod top v[m + 1]
      rw [e, Int.mul_comm]
      omega
    · have e : q = 4294967295 := by omega
      rw [e, htp]
      omega
  obtain ⟨u', h1, h2⟩ := digit_l0 u v hu hv hnv m hm (by omega) top htp htop hlt hQ (q.toNat + 1) q (top - q * v[m + 1]) (by omega) q0 q1 rfl (by omega) hr1 (by omega)
  refine ⟨u', Ev.congr (fun k => ?_) h1, h2⟩
  have eor : Go.bits .or .u64 (IntKind.u64.wrap ((IntKind.u64.wrap u[m + 2]) * 4294967296)) (IntKind.u64.wrap u[m + 1]) = top := by
    rw [u64 (x := u[m + 2]) (by omega) (by omega), u64 (x := u[m + 2] * 4294967296) (by omega) (by omega), u64 (x := u[m + 1]) (by omega) (by omega), or_join gu2 gu1, htp]
  have er2 : rd u (v.length : Int) = u[m + 2] := by rw [rd_D, hm, getD_get _ _ (show m + 2 < u.length by omega)]
  unfold nat_digit.f
  rw [w64 (x := (v.length : Int) - 1) (by omega) (by omega), show (v.length : Int) - 1 = ((m + 1 : Nat) : Int) by omega, if_pos (by omega), if_pos (by omega), if_pos (by omega), if_pos (by omega), if_pos (by omega), rd_get _ _ (show m + 1 < v.length by omega), er2, rd_get _ _ (show m + 1 < u.length by omega), eor, u64 (x := v[m + 1]) (by omega) (by omega), if_neg (by omega), Int.tdiv_eq_ediv_of_nonneg htp0, u64 hd0 hd1, ← hq, u64 (x := q * v[m + 1]) (by omega) (by omega), u64 (by omega) (by omega)]
end Go.Proofs.YtlfpnohpcemkgaaDoor.V
/- nat.DivMod and nat.Gcd, as numbers. -/
namespace Go.Proofs.YtlfpnohpcemkgaaDoor.V
set_option linter.unusedVariables false
set_option linter.unusedSimpArgs false
open Go.RowKit Go.Proofs.YtlfpnohpcemkgaaDoor.PA Go.Proofs.YtlfpnohpcemkgaaDoor.H Go.Proofs.YtlfpnohpcemkgaaDoorW.PrintWords Go.Proofs.YtlfpnohpcemkgaaDoorW.PrintLast Go.Proofs.YtlfpnohpcemkgaaDoorW.PrintMore

theorem bitLenAux_spec (f x : Nat) (hx : x < 2 ^ f) : x < 2 ^ (Lib.bitLenAux f x) ∧ (0 < x → 2 ^ (Lib.bitLenAux f x) ≤ 2 * x) ∧ Lib.bitLenAux f x ≤ f := by
  induction f generalizing x with
  | zero => simp at hx; subst hx; simp [Lib.bitLenAux]
  | succ f ih =>
    unfold Lib.bitLenAux
    by_cases h : x = 0
    · rw [if_pos h]; subst h; simp
    · rw [if_neg h]
      rw [Nat.pow_succ] at hx
      obtain ⟨h1, h2, h3⟩ := ih (x / 2) (by omega)
      rw [Nat.add_comm 1, Nat.pow_succ]
      refine ⟨by omega, fun _ => ?_, by omega⟩
      by_cases hz : x / 2 = 0
      · rw [hz]
        have e : Lib.bitLenAux f 0 = 0 := by cases f <;> simp [Lib.bitLenAux]
        rw [e]; omega
      · have := h2 (by omega); omega
/-- By how many bits the divisor is moved up: its highest limb's highest bit stands then. -/
theorem lz_ev (x : Int) (h0 : 0 < x) (h1 : x < 4294967296) : ∃ n : Nat, bits_LeadingZeros32.f x = some (n : Int) ∧ n ≤ 31 ∧ 2147483648 ≤ x * 2 ^ n ∧ (x + 1) * 2 ^ n ≤ 4294967296 := by
  obtain ⟨a1, a2, a3⟩ := bitLenAux_spec 64 x.toNat (by omega)
  have a2 := a2 (by omega)
  have a4 : Lib.bitLen x.toNat ≤ 32 := by
    unfold Lib.bitLen
    by_cases h : Lib.bitLenAux 64 x.toNat ≤ 32
    · exact h
    · have := Nat.pow_le_pow_right (n := 2) (by omega) (show 33 ≤ Lib.bitLenAux 64 x.toNat by omega)
      omega
  have a5 : 1 ≤ Lib.bitLen x.toNat := by
    unfold Lib.bitLen
    by_cases h : Lib.bitLenAux 64 x.toNat = 0
    · rw [h] at a1; omega
    · omega
  unfold Lib.bitLen at a4 a5
  obtain ⟨b, hb⟩ : ∃ b, b = Lib.bitLenAux 64 x.toNat := ⟨_, rfl⟩
  rw [← hb] at a1 a2 a4 a5
  refine ⟨32 - b, ?_, by omega, ?_, ?_⟩
  · unfold bits_LeadingZeros32.f Lib.bitLen
    rw [if_pos (by omega), ← hb]
    congr 1
    omega
  · have e : (2 : Nat) ^ b * 2 ^ (32 - b) = 4294967296 := by rw [← Nat.pow_add, show b + (32 - b) = 32 by omega]
    have h2 : 2 ^ b * 2 ^ (32 - b) ≤ (2 * x.toNat) * 2 ^ (32 - b) := Nat.mul_le_mul_right _ a2
    have h3 : x * 2 ^ (32 - b) = ((x.toNat * 2 ^ (32 - b) : Nat) : Int) := by
      rw [Int.natCast_mul, Int.toNat_of_nonneg (by omega)]; simp
    rw [h3]
    rw [Nat.mul_assoc] at h2
    omega
  · have e : (2 : Nat) ^ b * 2 ^ (32 - b) = 4294967296 := by rw [← Nat.pow_add, show b + (32 - b) = 32 by omega]
    have h2 : (x.toNat + 1) * 2 ^ (32 - b) ≤ 2 ^ b * 2 ^ (32 - b) := Nat.mul_le_mul_right _ a1
    have hp : 0 < 2 ^ (32 - b) := Nat.two_pow_pos _
    have h3 : x * 2 ^ (32 - b) = ((x.toNat * 2 ^ (32 - b) : Nat) : Int) := by
      rw [Int.natCast_mul, Int.toNat_of_nonneg (by omega)]; simp
    have h4 : (2 : Int) ^ (32 - b) = ((2 ^ (32 - b) : Nat) : Int) := by simp
    rw [Int.add_mul, h3, Int.one_mul, h4]
    rw [Nat.add_mul, Nat.one_mul] at h2
    omega
/-- The limbs of a window, by the whole. -/
theorem digitW_ev (u v : List Int) (j : Nat) (hu : Lim u) (hv : Lim v) (hnv : v.length < 1000000000) (hnu : u.length < 2000000000) (h2 : 2 ≤ v.length) (hj : j + v.length + 1 ≤ u.length) (htop : 2147483648 ≤ v.getD (v.length - 1) 0) (hlt : val (u.drop (j + 1)) < val v) :
    ∃ u', Ev (fun k => nat_digitW.f k u (j : Int) (((j + v.length + 1 : Nat)) : Int) v) (val (u.drop j) / val v, u') ∧ u'.length = u.length ∧ Lim u' ∧ val (u'.drop j) = val (u.drop j) % val v ∧ val u' = val u - pw j * (val (u.drop j) / val v * val v) := by
  have hvv := val_lt hv
  have hP := pw_pos v.length
  -- nothing stands above the window
  have hsp : (u.drop j) = (u.take (j + v.length + 1)).drop j ++ u.drop (j + v.length + 1) := by
    rw [← List.take_append_drop (v.length + 1) (u.drop j), List.drop_drop, List.drop_take]
    congr 1
    congr 1
    omega
  have hlw : ((u.take (j + v.length + 1)).drop j).length = v.length + 1 := by rw [List.length_drop, List.length_take]; omega
  have hju : j < u.length := by omega
  have gj := hu.get j hju
  have hd1 : val (u.drop j) = u[j] + 4294967296 * val (u.drop (j + 1)) := val_drop_cons u j hju
  have hlt' : val (u.drop j) < 4294967296 * val v := by omega
  have hLw : Lim ((u.take (j + v.length + 1)).drop j) := (hu.take _).drop _
  have hw0 := val_nonneg hLw
  have hw : val ((u.take (j + v.length + 1)).drop j) = val (u.drop j) ∧ val (u.drop (j + v.length + 1)) = 0 := by
    have e := val_append ((u.take (j + v.length + 1)).drop j) (u.drop (j + v.length + 1))
    rw [← hsp, hlw, pw_succ] at e
    have h3 := val_nonneg (hu.drop (j + v.length + 1))
    by_cases hz : val (u.drop (j + v.length + 1)) = 0
    · rw [hz] at e; exact ⟨by omega, hz⟩
    · have : (4294967296 * pw v.length) * 1 ≤ (4294967296 * pw v.length) * val (u.drop (j + v.length + 1)) := Int.mul_le_mul_of_nonneg_left (by omega) (by omega)
      omega
  obtain ⟨w, h1, h2', h3, h4⟩ := digit_ev _ v hLw hv hnv h2 hlw htop (by rw [hw.1]; exact hlt')
  rw [hw.1] at h1 h4
  have hl' : (u.take j ++ w ++ u.drop (j + v.length + 1)).length = u.length := by simp [h2']; omega
  have hdj : (u.take j ++ w ++ u.drop (j + v.length + 1)).drop j = w ++ u.drop (j + v.length + 1) := by
    rw [List.append_assoc, List.drop_append_of_le_length (by simp; omega), List.drop_eq_nil_of_le (by simp; omega), List.nil_append]
  have hvd : val ((u.take j ++ w ++ u.drop (j + v.length + 1)).drop j) = val (u.drop j) % val v := by
    rw [hdj, val_append, hw.2, h4]; omega
  refine ⟨u.take j ++ w ++ u.drop (j + v.length + 1), ?_, hl', ((hu.take j).append h3).append (hu.drop _), hvd, ?_⟩
  · obtain ⟨K, hK⟩ := h1
    refine ⟨K, fun k hk => ?_⟩
    have hK := hK k hk
    show nat_digitW.f k u (j : Int) ((j + v.length + 1 : Nat) : Int) v = _
    unfold nat_digitW.f
    rw [if_pos (by omega), Int.toNat_natCast, Int.toNat_natCast]
    simp only [] at hK
    rw [hK]
    rfl
  · have e1 := val_take_drop (u.take j ++ w ++ u.drop (j + v.length + 1)) j (by omega)
    have e2 := val_take_drop u j (by omega)
    have e3 : (u.take j ++ w ++ u.drop (j + v.length + 1)).take j = u.take j := by
      rw [List.append_assoc, List.take_append_of_le_length (by simp; omega), List.take_take, Nat.min_self]
    rw [e3, hvd] at e1
    rw [e1, e2]
    have e4 := Int.mul_ediv_add_emod (val (u.drop j)) (val v)
    generalize val (u.drop j) / val v = q at *
    generalize val (u.drop j) % val v = r at *
    rw [← e4]
    grind
theorem divmod_l0 (b v : List Int) (n : Nat) (A Bn : Int) (hn : n ≤ 31) (hv : Lim v) (hbv : b.length = v.length) (hnv : v.length < 1000000000) (h2 : 2 ≤ v.length) (htop : 2147483648 ≤ v.getD (v.length - 1) 0) (hV : val v = Bn * 2 ^ n) (d : Nat) : ∀ (u q : List Int), d ≤ q.length → u.length = q.length + v.length → u.length < 2000000000 → Lim u → Lim q → val (q.take d) = 0 → val (u.drop d) < val v → val u + val v * val q = A * 2 ^ n →
    Ev (fun k => nat_DivMod.l0 k b (n : Int) u v q ((d : Int) - 1)) (dig (A / Bn), dig (A % Bn), 0) := by
  have hp := p_pos n
  have hvv := val_lt hv
  induction d with
  | zero =>
    intro u q hd hl hnu hu hq hz hlt hval
    rw [List.drop_zero] at hlt
    have hu0 := val_nonneg hu
    have htake : val (u.take b.length) = val u := by
      have e := val_take_drop u b.length (by omega)
      have h3 := val_nonneg (hu.drop b.length)
      have h4 := val_nonneg (hu.take b.length)
      rw [hbv] at e h3 h4 ⊢
      have hP := pw_pos v.length
      by_cases hz : val (u.drop v.length) = 0
      · rw [hz] at e; omega
      · have : pw v.length * 1 ≤ pw v.length * val (u.drop v.length) := Int.mul_le_mul_of_nonneg_left (by omega) (by omega)
        omega
    -- u is the rest, moved up
    have hB : 0 < Bn := by
      by_cases h : 0 < Bn
      · exact h
      · have h1 := Int.mul_le_mul_of_nonneg_right (show Bn ≤ 0 by omega) (Int.le_of_lt hp)
        rw [Int.zero_mul] at h1
        omega
    have hr : val u = (A - Bn * val q) * 2 ^ n := by
      have : (A - Bn * val q) * 2 ^ n = A * 2 ^ n - (Bn * 2 ^ n) * val q := by grind
      rw [this, ← hV]; omega
    have hr0 : 0 ≤ A - Bn * val q := by
      by_cases h : 0 ≤ A - Bn * val q
      · exact h
      · have : (A - Bn * val q) * 2 ^ n < 0 := Int.mul_neg_of_neg_of_pos (by omega) hp
        omega
    have hr1 : A - Bn * val q < Bn := by
      have : (A - Bn * val q) * 2 ^ n < Bn * 2 ^ n := by omega
      exact Int.lt_of_mul_lt_mul_right this (Int.le_of_lt hp)
    obtain ⟨e1, e2⟩ := div_unique hB (a := A) (q := val q) (r := A - Bn * val q) (by rw [Int.mul_comm]; omega) hr0 hr1
    have hright := right_ev (u.take b.length) n (hu.take _) hn (by rw [List.length_take]; omega)
    rw [htake, hr, Int.mul_ediv_cancel _ (by omega)] at hright
    refine Ev.step (fun k => ?_) (Ev.bind (f := fun k t => some (dig (A / Bn), t, 0)) hright (by rw [e2]; exact Ev.now _))
    simp only [nat_DivMod.l0]
    rw [if_neg (by omega), norm_ev q hq (by omega)]
    simp only [Option.bind_some]
    rw [if_pos (by omega), if_pos (by omega), Int.toNat_natCast, e1]
  | succ d ih =>
    intro u q hd hl hnu hu hq hz hlt hval
    obtain ⟨u', h1, h2', h3, h4, h5⟩ := digitW_ev u v d hu hv hnv hnu h2 (by omega) htop hlt
    have hdu : d < u.length := by omega
    have hdq : d < q.length := by omega
    have gd := hu.get d hdu
    have gq := hq.get d hdq
    have hv0 : 0 < val v := by
      have := val_nonneg (hu.drop (d + 1))
      omega
    have hd1 : val (u.drop d) = u[d] + 4294967296 * val (u.drop (d + 1)) := val_drop_cons u d hdu
    have hq0 : 0 ≤ val (u.drop d) / val v := Int.ediv_nonneg (val_nonneg (hu.drop d)) (by omega)
    have hq1 : val (u.drop d) / val v < 4294967296 := Int.ediv_lt_of_lt_mul hv0 (by omega)
    have hm := Int.emod_lt_of_pos (val (u.drop d)) hv0
    have hz' : val (q.take d) = 0 ∧ q[d] = 0 := by
      have e := val_take_succ q d hdq
      rw [hz] at e
      have h6 := val_nonneg (hq.take d)
      have hP := pw_pos d
      by_cases h0 : q[d] = 0
      · rw [h0] at e; exact ⟨by omega, h0⟩
      · have : pw d * 1 ≤ pw d * q[d] := Int.mul_le_mul_of_nonneg_left (by omega) (by omega)
        omega
    refine Ev.step (fun k => ?_) (Ev.bind (f := fun k bt => if (d : Int) < (q.length : Int) then nat_DivMod.l0 k b (n : Int) bt.2 v (q.set (d : Int).toNat bt.1) (wrap64 ((d : Int) - 1)) else none) h1 ?_)
    · simp only [nat_DivMod.l0]
      rw [show ((d + 1 : Nat) : Int) - 1 = (d : Int) by omega, if_pos (by omega), if_pos (by omega), w64 (x := (d : Int) + (v.length : Int)) (by omega) (by omega), w64 (x := (d : Int) + (v.length : Int) + 1) (by omega) (by omega), show (d : Int) + (v.length : Int) + 1 = ((d + v.length + 1 : Nat) : Int) by omega, if_pos (by omega), if_pos (by omega)]
    · refine Ev.congr (fun k => ?_) (ih u' (q.set d (val (u.drop d) / val v)) (by simp; omega) (by simp; omega) (by omega) h3 (hq.set _ hq0 hq1) ?_ ?_ ?_)
      · simp only []
        rw [if_pos (by omega), Int.toNat_natCast, w64 (by omega) (by omega)]
      · rw [List.take_set_of_le (Nat.le_refl d)]; exact hz'.1
      · rw [h4]; exact hm
      · rw [h5, val_set _ _ _ hdq, hz'.2]
        rw [← hval]
        grind
theorem divmod_ev (a b : List Int) (ha : Lim a) (hb : Lim b) (hna : a.length < 1000000000) (hnb : b.length < 1000000000) :
    Ev (fun k => nat_DivMod.f k a b) (if val b = 0 then ([], [], 7) else (dig (val a / val b), dig (val a % val b), 0)) := by
  have va := val_nonneg ha
  have vb := val_nonneg hb
  have la := dig_length a ha
  have lb := dig_length b hb
  have na := norm_ev a ha (by omega)
  have nb := norm_ev b hb (by omega)
  by_cases hz : val b = 0
  · rw [if_pos hz]
    refine Ev.congr (f := fun _ => some _) (fun k => ?_) (Ev.now _)
    unfold nat_DivMod.f
    rw [na, nb, hz, dig_zero]
    rfl
  rw [if_neg hz]
  have hlb : 0 < (dig (val b)).length := by
    have : dig (val b) ≠ [] := by rw [Ne, dig_eq_nil vb]; exact hz
    cases h : dig (val b) with
    | nil => exact absurd h this
    | cons _ _ => simp
  have hc := cmp_ev (dig (val a)) (dig (val b)) (dig_lim _) (dig_lim _) (by omega) (by omega)
  rw [val_dig va, val_dig vb] at hc
  refine Ev.congr (fun k => by
    unfold nat_DivMod.f
    rw [na, nb, Option.bind_some, Option.bind_some, if_neg (by omega)]) (Ev.bind hc ?_)
  by_cases hlt : val a < val b
  · refine Ev.congr (f := fun _ => some _) (fun k => by unfold cmpI; rw [if_pos hlt, if_pos (by decide)]) ?_
    rw [Int.ediv_eq_zero_of_lt va hlt, Int.emod_eq_of_lt va hlt, dig_zero]
    exact Ev.now _
  have hcm : ¬ cmpI (val a) (val b) < 0 := by unfold cmpI; rw [if_neg hlt]; split <;> decide
  by_cases h1 : (dig (val b)).length = 1
  · obtain ⟨x, hx⟩ : ∃ x, dig (val b) = [x] := List.length_eq_one_iff.1 h1
    have hxb : val b = x := by rw [← val_dig vb, hx]; simp [val]
    have hx1 : x < 4294967296 := by have := dig_lim (val b) x (by rw [hx]; simp); exact this.2
    have hs := small_ev (dig (val a)) x (dig_lim _) (by omega) (by omega) (by omega)
    rw [val_dig va] at hs
    have hm0 := Int.emod_nonneg (val a) (show x ≠ 0 by omega)
    have hm1 := Int.emod_lt_of_pos (val a) (show 0 < x by omega)
    refine Ev.congr (fun k => by
      rw [if_neg hcm, if_pos (by omega), if_pos (by omega), hx, show rd [x] 0 = x from rfl, u64 (x := x) (by omega) (by omega)]) (Ev.bind hs ?_)
    refine Ev.congr (f := fun _ => some _) (fun k => ?_) (Ev.now _)
    simp only []
    rw [of_ev _ hm0 (by omega), hxb]
    rfl
  -- the great case
  have hlast := fun h => dig_last (n := val b) h
  obtain ⟨m, hm⟩ : ∃ m, (dig (val b)).length = m + 2 := ⟨(dig (val b)).length - 2, by omega⟩
  have hlen_le : (dig (val b)).length ≤ (dig (val a)).length := by
    by_cases h : (dig (val b)).length ≤ (dig (val a)).length
    · exact h
    · have := val_lt_of_length (dig_lim (val a)) (dig_lim (val b)) (by omega) hlast
      rw [val_dig va, val_dig vb] at this
      omega
  obtain ⟨e, he⟩ : ∃ e, (dig (val a)).length = e + (m + 2) := ⟨(dig (val a)).length - (m + 2), by omega⟩
  have hmb : m + 1 < (dig (val b)).length := by omega
  have gx := (dig_lim (val b)).get (m + 1) hmb
  have hx0 : (dig (val b))[m + 1] ≠ 0 := by
    have hne : dig (val b) ≠ [] := by rw [Ne, dig_eq_nil vb]; exact hz
    have := hlast hne
    rw [List.getLast_eq_getElem] at this
    simpa [hm] using this
  obtain ⟨n, z1, z2, z3, z4⟩ := lz_ev (dig (val b))[m + 1] (by omega) gx.2
  have hp := p_pos n
  have hp1 := p_le z2
  obtain ⟨u, u1, u2, u3, u4⟩ := left_ev (dig (val a)) n (dig_lim _) z2 (by omega)
  obtain ⟨vv, v1, v2, v3, v4⟩ := left_ev (dig (val b)) n (dig_lim _) z2 (by omega)
  rw [val_dig va] at u4
  rw [val_dig vb] at v4
  have hP := pw_pos (m + 1)
  -- the divisor's value, by its highest limb
  have dB : val b = val ((dig (val b)).take (m + 1)) + pw (m + 1) * (dig (val b))[m + 1] := by
    have h := val_take_succ (dig (val b)) (m + 1) hmb
    rw [List.take_of_length_le (by omega), val_dig vb] at h
    exact h
  have lB0 := val_nonneg ((dig_lim (val b)).take (m + 1))
  have lB1 := val_lt ((dig_lim (val b)).take (m + 1))
  rw [List.length_take, Nat.min_eq_left (by omega)] at lB1
  generalize hX : (dig (val b))[m + 1] = X at *
  have hBhi : val b * 2 ^ n < pw (m + 2) := by
    have h1 : (val b + 1) * 2 ^ n ≤ (pw (m + 1) * (X + 1)) * 2 ^ n := Int.mul_le_mul_of_nonneg_right (by rw [Int.mul_add]; omega) (Int.le_of_lt hp)
    have h2 : pw (m + 1) * ((X + 1) * 2 ^ n) ≤ pw (m + 1) * 4294967296 := Int.mul_le_mul_of_nonneg_left z4 (Int.le_of_lt hP)
    rw [← Int.mul_assoc] at h2
    rw [Int.add_mul, Int.one_mul] at h1
    rw [pw_succ (m + 1)]
    omega
  have hBlo : pw (m + 1) * 2147483648 ≤ val b * 2 ^ n := by
    have h1 : (pw (m + 1) * X) * 2 ^ n ≤ val b * 2 ^ n := Int.mul_le_mul_of_nonneg_right (by omega) (Int.le_of_lt hp)
    have h2 : pw (m + 1) * 2147483648 ≤ pw (m + 1) * (X * 2 ^ n) := Int.mul_le_mul_of_nonneg_left z3 (Int.le_of_lt hP)
    rw [← Int.mul_assoc] at h2
    omega
  have hvl : (vv.take (m + 2)).length = m + 2 := by rw [List.length_take]; omega
  have hvv : val (vv.take (m + 2)) = val b * 2 ^ n := by
    have h := val_take_drop vv (m + 2) (by omega)
    have h3 := val_nonneg (v3.drop (m + 2))
    have h4 := val_nonneg (v3.take (m + 2))
    have hP2 := pw_pos (m + 2)
    by_cases h0 : val (vv.drop (m + 2)) = 0
    · rw [h0] at h; omega
    · have : pw (m + 2) * 1 ≤ pw (m + 2) * val (vv.drop (m + 2)) := Int.mul_le_mul_of_nonneg_left (by omega) (by omega)
      omega
  have hLv : Lim (vv.take (m + 2)) := v3.take _
  have htop : 2147483648 ≤ (vv.take (m + 2)).getD (m + 2 - 1) 0 := by
    have hm1 : m + 1 < (vv.take (m + 2)).length := by omega
    rw [show m + 2 - 1 = m + 1 by omega, getD_get _ _ hm1]
    have h := val_take_succ (vv.take (m + 2)) (m + 1) hm1
    rw [List.take_of_length_le (by omega), hvv] at h
    have h3 := val_lt (hLv.take (m + 1))
    rw [List.length_take, Nat.min_eq_left (by omega)] at h3
    by_cases h4 : 2147483648 ≤ (vv.take (m + 2))[m + 1]
    · exact h4
    · have h5 : pw (m + 1) * ((vv.take (m + 2))[m + 1] + 1) ≤ pw (m + 1) * 2147483648 := Int.mul_le_mul_of_nonneg_left (by omega) (Int.le_of_lt hP)
      rw [Int.mul_add, Int.mul_one] at h5
      omega
  have hul : u.length = (e + 1) + (m + 2) := by omega
  have hstart : val (u.drop (e + 1)) < val b * 2 ^ n := by
    have h := val_take_drop u (e + 1) (by omega)
    have h3 := val_nonneg (u3.take (e + 1))
    have h4 := val_lt (dig_lim (val a))
    rw [val_dig va, he] at h4
    have h5 : val a * 2 ^ n < pw (e + (m + 2)) * 2 ^ n := Int.mul_lt_mul_of_pos_right h4 hp
    have h6 : pw (e + (m + 2)) = pw (e + 1) * pw (m + 1) := by rw [← pw_add]; congr 1; omega
    have h7 : pw (e + 1) * val (u.drop (e + 1)) < pw (e + 1) * (pw (m + 1) * 2 ^ n) := by
      rw [← Int.mul_assoc, ← h6]; omega
    have h8 := Int.lt_of_mul_lt_mul_left h7 (Int.le_of_lt (pw_pos _))
    have h9 : pw (m + 1) * 2 ^ n ≤ pw (m + 1) * 2147483648 := Int.mul_le_mul_of_nonneg_left hp1 (Int.le_of_lt hP)
    omega
  have hmain := divmod_l0 (dig (val b)) (vv.take (m + 2)) n (val a) (val b) z2 hLv (by omega) (by omega) (by omega) (by rw [hvl]; exact htop) hvv (e + 1) u (List.replicate (e + 1) 0) (by simp) (by simp [hvl]; omega) (by omega) u3 (Lim.zeros _) (by rw [List.take_of_length_le (by simp), val_zeros]) (by rw [hvv]; exact hstart) (by rw [u4, val_zeros]; omega)
  refine Ev.congr (fun k => by
    rw [if_neg hcm, if_neg (by omega), w64 (x := ((dig (val b)).length : Int) - 1) (by omega) (by omega), show ((dig (val b)).length : Int) - 1 = ((m + 1 : Nat) : Int) by omega, if_pos (by omega), if_pos (by omega), rd_get _ _ hmb, hX, z1, Option.bind_some]) (Ev.bind u1 ?_)
  refine Ev.congr (fun k => rfl) (Ev.bind v1 ?_)
  refine Ev.congr (fun k => ?_) hmain
  rw [if_pos (by omega), if_pos (by omega), he, hm, w64 (x := ((e + (m + 2) : Nat) : Int) - ((m + 2 : Nat) : Int)) (by omega) (by omega), w64 (x := ((e + (m + 2) : Nat) : Int) - ((m + 2 : Nat) : Int) + 1) (by omega) (by omega), show ((e + (m + 2) : Nat) : Int) - ((m + 2 : Nat) : Int) + 1 = ((e + 1 : Nat) : Int) by omega, if_pos (by omega), if_pos (by omega), Option.bind_some, Int.toNat_natCast, Int.toNat_natCast, List.length_replicate, w64 (by omega) (by omega)]

/-! ### the greatest common divisor -/
def gcdI (a b : Int) : Int := (Nat.gcd a.toNat b.toNat : Nat)
theorem gcdI_zero (a : Int) (h : 0 ≤ a) : gcdI a 0 = a := by unfold gcdI; simp; omega
theorem gcdI_rec (a b : Int) (ha : 0 ≤ a) (hb : 0 ≤ b) : gcdI b (a % b) = gcdI a b := by
  unfold gcdI
  obtain ⟨a, rfl⟩ := Int.eq_ofNat_of_zero_le ha
  obtain ⟨b, rfl⟩ := Int.eq_ofNat_of_zero_le hb
  have e : ((a : Int) % (b : Int)).toNat = a % b := by rw [← Int.natCast_emod]; exact Int.toNat_natCast _
  rw [e, Int.toNat_natCast, Int.toNat_natCast, Nat.gcd_comm a b, Nat.gcd_rec b a, Nat.gcd_comm]
theorem gcd_l0 (n : Nat) : ∀ (a b : Int), 0 ≤ a → 0 ≤ b → b.toNat = n → (dig a).length < 1000000000 → (dig b).length < 1000000000 → Ev (fun k => nat_Gcd.l0 k (dig a) (dig b)) (dig (gcdI a b)) := by
  induction n using Nat.strongRecOn with
  | _ n ih =>
    intro a b ha hb hn la lb
    by_cases hz : b = 0
    · subst hz
      refine Ev.step (f := fun _ => some _) (fun k => ?_) (Ev.now _)
      simp only [nat_Gcd.l0]
      rw [dig_zero, if_neg (by simp), gcdI_zero a ha]
    · have hlb : 0 < (dig b).length := by
        have : dig b ≠ [] := by rw [Ne, dig_eq_nil hb]; exact hz
        cases h : dig b with
        | nil => exact absurd h this
        | cons _ _ => simp
      have hd := divmod_ev (dig a) (dig b) (dig_lim _) (dig_lim _) la lb
      rw [val_dig ha, val_dig hb, if_neg hz] at hd
      have hm0 := Int.emod_nonneg a (show b ≠ 0 by omega)
      have hm1 := Int.emod_lt_of_pos a (show 0 < b by omega)
      have hlm : (dig (a % b)).length ≤ (dig b).length := by
        have := lt_of_dig_length hb (Nat.le_refl _)
        exact dig_length_le hm0 (by omega)
      have := ih (a % b).toNat (by omega) b (a % b) hb hm0 rfl lb (by omega)
      rw [gcdI_rec a b ha hb] at this
      refine Ev.step (fun k => by
        simp only [nat_Gcd.l0]
        rw [if_pos (by omega)]) (Ev.bind hd this)
theorem gcd_ev (a b : List Int) (ha : Lim a) (hb : Lim b) (hna : a.length < 1000000000) (hnb : b.length < 1000000000) : Ev (fun k => nat_Gcd.f k a b) (dig (gcdI (val a) (val b))) := by
  have la := dig_length a ha
  have lb := dig_length b hb
  refine Ev.congr (fun k => ?_) (gcd_l0 _ (val a) (val b) (val_nonneg ha) (val_nonneg hb) rfl (by omega) (by omega))
  unfold nat_Gcd.f
  rw [norm_ev a ha (by omega), norm_ev b hb (by omega)]
  rfl
end Go.Proofs.YtlfpnohpcemkgaaDoor.V
/- The reference's quotients, and what divides both. -/
namespace Go.Proofs.YtlfpnohpcemkgaaDoor.V
set_option linter.unusedVariables false
set_option linter.unusedSimpArgs false
open Go.RowKit Go.Proofs.YtlfpnohpcemkgaaDoor.PA Go.Proofs.YtlfpnohpcemkgaaDoor.H Go.Proofs.YtlfpnohpcemkgaaDoorW.PrintWords Go.Proofs.YtlfpnohpcemkgaaDoorW.PrintLast Go.Proofs.YtlfpnohpcemkgaaDoorW.PrintMore

/-! ### quotients -/
theorem bdrop_set_true (l : List Bool) (i : Nat) (h : i < l.length) : bval ((l.set i true).drop i) = 1 + 2 * bval (l.drop (i + 1)) := by
  rw [List.drop_eq_getElem_cons (by simpa using h)]
  simp [bval, b2i, List.drop_set_of_lt]
theorem bdivmod_l0 (a b : List Bool) (ha : a.length ≤ 400000000) (hb : b.length ≤ 400000000) (hb0 : 0 < bval b) (d : Nat) : ∀ (q : List Bool) (r : Int), d ≤ a.length → q.length = a.length → (∀ p, p < d → q.getD p false = false) → 0 ≤ r → r < bval b → bval (q.drop d) * bval b + r = bval (a.drop d) →
    Ev (fun k => gudgeonref01_divmod.l0 k a b q (bits r) ((d : Int) - 1)) (bits (bval a / bval b), bits (bval a % bval b)) := by
  have hbl := bval_lt b
  induction d with
  | zero =>
    intro q r hd hq hz r0 r1 hv
    rw [List.drop_zero, List.drop_zero] at hv
    obtain ⟨e1, e2⟩ := div_unique hb0 hv r0 r1
    have ht := btrim_ev q (by omega)
    refine Ev.step (fun k => ?_) (Ev.bind (f := fun _ t => some (t, bits r)) ht (by rw [e1, e2]; exact Ev.now _))
    simp only [gudgeonref01_divmod.l0]
    rw [if_neg (by omega)]
  | succ d ih =>
    intro q r hd hq hz r0 r1 hv
    have hda : d < a.length := by omega
    have hdq : d < q.length := by omega
    have e0 : ((d + 1 : Nat) : Int) - 1 = (d : Int) := by omega
    have hdrop := bval_drop_getD a d
    have hqd : bval (q.drop d) = 2 * bval (q.drop (d + 1)) := by
      rw [bval_drop_getD q d, hz d (by omega)]; simp [b2i]
    have hx := b2i_rng (a.getD d false)
    have hlr : (bits r).length ≤ b.length := bits_length_le r0 (by omega)
    have ht := btrim_ev (a.getD d false :: bits r) (by simp; omega)
    have ev : bval (a.getD d false :: bits r) = b2i (a.getD d false) + 2 * r := by simp only [bval, bval_bits r0]
    rw [ev] at ht
    obtain ⟨R, hR⟩ : ∃ R, R = b2i (a.getD d false) + 2 * r := ⟨_, rfl⟩
    rw [← hR] at ht
    have hll : (bits R).length ≤ b.length + 1 := bits_length_le (by omega) (by rw [p2_succ]; omega)
    have hlt : LB (bits R) := by unfold LB; omega
    have hlb : LB b := by unfold LB; omega
    have hc := bcmp_ev (bits R) b hlt hlb
    rw [bval_bits (by omega)] at hc
    rw [e0]
    refine Ev.step (fun k => by
      simp only [gudgeonref01_divmod.l0]
      rw [if_pos (by omega), if_pos (by omega), if_pos (by omega), rdOf_D, Option.bind_some, if_pos (by simp; omega)]
      exact rfl) (Ev.bind ht (Ev.bind hc ?_))
    have ha1 : bval (a.drop d) = 2 * bval (q.drop (d + 1)) * bval b + R := by
      rw [hdrop, ← hv, hR]; grind
    by_cases hge : R < bval b
    · refine Ev.congr (fun k => ?_) (ih q R (by omega) hq (fun p hp => hz p (by omega)) (by omega) hge (by rw [hqd, ha1]))
      unfold cmpI
      rw [if_pos hge, if_neg (by decide), w64 (by omega) (by omega)]
    · have hs := bsub_ev (bits R) b hlt hlb (by rw [bval_bits (by omega)]; omega)
      rw [bval_bits (by omega)] at hs
      refine Ev.congr (fun k => by
        unfold cmpI
        rw [if_neg hge, if_pos (by split <;> decide)]) (Ev.bind hs ?_)
      refine Ev.congr (fun k => ?_) (ih (q.set d true) (R - bval b) (by omega) (by simpa using hq) (fun p hp => ?_) (by omega) (by omega) ?_)
      · rw [if_pos (by omega), Int.toNat_natCast, w64 (by omega) (by omega)]
      · have := hz p (by omega)
        rw [List.getD_eq_getElem?_getD, List.getElem?_set_ne (by omega), ← List.getD_eq_getElem?_getD]
        exact this
      · rw [bdrop_set_true _ _ hdq, ha1]; grind
theorem bdivmod_ev (a b : List Bool) (ha : a.length ≤ 400000000) (hb : b.length ≤ 400000000) (hb0 : 0 < bval b) : Ev (fun k => gudgeonref01_divmod.f k a b) (bits (bval a / bval b), bits (bval a % bval b)) := by
  have := bdivmod_l0 a b ha hb hb0 a.length (List.replicate a.length false) 0 (Nat.le_refl _) (by simp) (fun p hp => by simp [hp]) (by omega) hb0 (by rw [List.drop_eq_nil_of_le (by simp), List.drop_eq_nil_of_le (Nat.le_refl _)]; simp [bval])
  rw [bits_zero] at this
  refine Ev.congr (fun k => ?_) this
  unfold gudgeonref01_divmod.f
  rw [if_pos (by omega), if_pos (by omega), Int.toNat_natCast, w64 (by omega) (by omega)]
theorem refDivMod_ev (a b : List Int) (ha : Lim a) (hb : Lim b) (sa : SZ a) (sb : SZ b) : Ev (fun k => gudgeonref01_DivMod.f k a b) (if val b = 0 then ([], [], 7) else (dig (val a / val b), dig (val a % val b), 0)) := by
  have h1 := bits_len_of a ha sa
  have h2 := bits_len_of b hb sb
  have va := val_nonneg ha
  have vb := val_nonneg hb
  have sa' := sa
  have sb' := sb
  unfold SZ at sa' sb'
  refine Ev.congr (fun k => rfl) (Ev.bind (Bits_ev b hb (by omega)) ?_)
  by_cases hz : val b = 0
  · refine Ev.congr (f := fun _ => some _) (fun k => ?_) (Ev.now _)
    rw [if_pos hz, hz, bits_zero, if_pos (by rfl)]
  · have hne : ¬ ((bits (val b)).length : Int) = 0 := by
      intro h
      exact hz ((bits_nil vb).1 (List.eq_nil_of_length_eq_zero (by omega)))
    have hd := bdivmod_ev (bits (val a)) (bits (val b)) (by omega) (by omega) (by rw [bval_bits vb]; omega)
    rw [bval_bits va, bval_bits vb] at hd
    have q0 : 0 ≤ val a / val b := Int.ediv_nonneg va vb
    have q1 : val a / val b ≤ val a := Int.ediv_le_self _ va
    have m0 := Int.emod_nonneg (val a) hz
    have m1 := Int.emod_lt_of_pos (val a) (show 0 < val b by omega)
    have hl1 : (bits (val a / val b)).length ≤ 320000 := bits_length_le q0 (by have := lt_of_bits_length va h1; omega)
    have hl2 : (bits (val a % val b)).length ≤ 320000 := bits_length_le m0 (by have := lt_of_bits_length vb h2; omega)
    rw [if_neg hz]
    refine Ev.congr (fun k => by
      rw [if_neg hne]) (Ev.bind (Bits_ev a ha (by omega)) (Ev.bind hd (Ev.bind (Limbs_ev _ q0 (by omega)) (Ev.bind (f := fun _ t => some (dig (val a / val b), t, (0 : Int))) (Limbs_ev _ m0 (by omega)) (Ev.now _)))))
theorem refGcd_l0 (n : Nat) : ∀ (a b : Int), 0 ≤ a → 0 ≤ b → b.toNat = n → (bits a).length ≤ 320000 → (bits b).length ≤ 320000 → Ev (fun k => gudgeonref01_Gcd.l0 k (bits a) (bits b)) (dig (gcdI a b)) := by
  induction n using Nat.strongRecOn with
  | _ n ih =>
    intro a b ha hb hn la lb
    by_cases hz : b = 0
    · subst hz
      refine Ev.step (fun k => ?_) (Ev.bind (f := fun _ t => some t) (Limbs_ev a ha (by omega)) (by rw [gcdI_zero a ha]; exact Ev.now _))
      simp only [gudgeonref01_Gcd.l0]
      rw [bits_zero, if_neg (by simp)]
    · have hlb : 0 < (bits b).length := by
        have : bits b ≠ [] := by rw [Ne, bits_nil hb]; exact hz
        cases h : bits b with
        | nil => exact absurd h this
        | cons _ _ => simp
      have hd := bdivmod_ev (bits a) (bits b) (by omega) (by omega) (by rw [bval_bits hb]; omega)
      rw [bval_bits ha, bval_bits hb] at hd
      have hm0 := Int.emod_nonneg a (show b ≠ 0 by omega)
      have hm1 := Int.emod_lt_of_pos a (show 0 < b by omega)
      have hlm : (bits (a % b)).length ≤ 320000 := bits_length_le hm0 (by have := lt_of_bits_length hb lb; omega)
      have := ih (a % b).toNat (by omega) b (a % b) hb hm0 rfl lb hlm
      rw [gcdI_rec a b ha hb] at this
      refine Ev.step (fun k => by
        simp only [gudgeonref01_Gcd.l0]
        rw [if_pos (by omega)]) (Ev.bind hd this)
theorem refGcd_ev (a b : List Int) (ha : Lim a) (hb : Lim b) (sa : SZ a) (sb : SZ b) : Ev (fun k => gudgeonref01_Gcd.f k a b) (dig (gcdI (val a) (val b))) := by
  have h1 := bits_len_of a ha sa
  have h2 := bits_len_of b hb sb
  have sa' := sa
  have sb' := sb
  unfold SZ at sa' sb'
  exact Ev.congr (fun k => rfl) (Ev.bind (Bits_ev a ha (by omega)) (Ev.bind (Bits_ev b hb (by omega)) (refGcd_l0 _ _ _ (val_nonneg ha) (val_nonneg hb) rfl h1 h2)))
end Go.Proofs.YtlfpnohpcemkgaaDoor.V
/- The law NatParts, in plain Lean. -/
namespace Go.Proofs.YtlfpnohpcemkgaaDoor.S
set_option linter.unusedVariables false
set_option linter.unusedSimpArgs false
open Go.RowKit Go.Proofs.YtlfpnohpcemkgaaDoor.V Go.Proofs.YtlfpnohpcemkgaaDoor.PA Go.Proofs.YtlfpnohpcemkgaaDoor.H Go.Proofs.YtlfpnohpcemkgaaDoorW.PrintWords Go.Proofs.YtlfpnohpcemkgaaDoorW.PrintLast Go.Proofs.YtlfpnohpcemkgaaDoorW.PrintMore

theorem NatParts : gudgeonlaw01_NatParts.Pure := by
  intro a b _ _ wa _ _ wb
  have ha := lim_wf wa
  have hb := lim_wf wb
  refine Ev.rounds ?_
  refine Ev.congr (fun k => rfl) (Ev.bind awake_ev (evC (few_ev a b 24) (evP rfl ?_)))
  by_cases hf : a.length ≤ 24 ∧ b.length ≤ 24
  · rw [decide_eq_true hf.1, decide_eq_true hf.2]
    have va := val_nonneg ha
    have vb := val_nonneg hb
    have da := dig_length a ha
    have db := dig_length b hb
    have sa : SZ a := by unfold SZ; omega
    have sb : SZ b := by unfold SZ; omega
    have hd : (if val b = 0 then (([] : List Int), ([] : List Int), (7 : Int)) else (dig (val a / val b), dig (val a % val b), 0)).1.length ≤ 1000000000 ∧ (if val b = 0 then (([] : List Int), ([] : List Int), (7 : Int)) else (dig (val a / val b), dig (val a % val b), 0)).2.1.length ≤ 1000000000 := by
      split
      · simp
      · rename_i h
        have m0 := Int.emod_nonneg (val a) h
        have m1 := Int.emod_lt_of_pos (val a) (show 0 < val b by omega)
        have := len_le (x := val a / val b) (y := val a) (Int.ediv_nonneg va vb) (Int.ediv_le_self _ va)
        have := len_le (x := val a % val b) (y := val b) m0 (by omega)
        simp only []
        omega
    have hg : (dig (gcdI (val a) (val b))).length ≤ 1000000000 := by
      unfold gcdI
      by_cases hz : val b = 0
      · have : (Nat.gcd (val a).toNat (val b).toNat : Int) ≤ val a := by rw [hz]; simp; omega
        have := len_le (x := ((Nat.gcd (val a).toNat (val b).toNat : Nat) : Int)) (y := val a) (by omega) (by omega)
        omega
      · have h1 := Nat.gcd_le_right (val a).toNat (show 0 < (val b).toNat by omega)
        have := len_le (x := ((Nat.gcd (val a).toNat (val b).toNat : Nat) : Int)) (y := val b) (by omega) (by omega)
        omega
    refine Ev.step (fun k => by rw [gudgeonlaw01_NatParts.j0]) ?_
    refine evN (by decide) ?_
    refine evP (by simp; omega) (evC rfl ?_)
    refine evP (by simp; omega) (evC rfl ?_)
    simp only [List.nil_append]
    refine Ev.bind (divmod_ev a b ha hb (by omega) (by omega)) ?_
    refine Ev.bind (refDivMod_ev a b ha hb sa sb) ?_
    refine Ev.bind (same_self _ _ rfl hd.1) ?_
    refine Ev.bind (same_self _ _ rfl hd.2) ?_
    refine Ev.bind (gcd_ev a b ha hb (by omega) (by omega)) ?_
    refine Ev.bind (refGcd_ev a b ha hb sa sb) ?_
    refine Ev.bind (same_self _ _ rfl hg) ?_
    refine Ev.bind (same_self _ _ rfl (by omega)) ?_
    refine Ev.bind (same_self _ _ rfl (by omega)) ?_
    exact evP rfl (evP rfl (evP rfl (evP rfl (evP rfl (Ev.now _)))))
  · rw [few_no hf]
    exact Ev.step (f := fun _ => some true) (fun k => rfl) (Ev.now _)
end Go.Proofs.YtlfpnohpcemkgaaDoor.S
/- The plain statement of the law NatParts. -/
namespace Go.Proofs.YtlfpnohpcemkgaaDoor.Pure
open Go.Proofs.YtlfpnohpcemkgaaDoor.PA
theorem NatParts : gudgeonlaw01_NatParts.Pure := Go.Proofs.YtlfpnohpcemkgaaDoor.S.NatParts
end Go.Proofs.YtlfpnohpcemkgaaDoor.Pure
/- The law NatParts of package gudgeonlaw01 returns true and leaves its arguments as they were, for every input that can be read as data; the library's tables that the row lists read as the program's text lays them, to which the card ties them. -/
namespace Go.Proofs.YtlfpnohpcemkgaaDoor.natParts
open Go.ChangeShapes Go.WideShapes Go.ChangeAt Go.RowKit
open Go.ChangeMaps (open_string shut_string)
set_option linter.unusedVariables false
theorem own : ownKnob Tryd.prog.godebug = none := by kernel_rfl
theorem laidOut : laidOutB Tryd.prog = true := by kernel_rfl
def IsRow (k : IntKind) (w : World) (a : Option Addr) (len cap : Nat) (zs : List Int) : Prop :=
  (a = none ∧ len = 0 ∧ cap = 0 ∧ zs = []) ∨
  ∃ x, a = some x ∧ len ≤ cap ∧ cap ≤ maxLen ∧ zs.length = cap ∧ (∀ i, i < zs.length → w.cell? (x.add i) = some (.int k (zs.getD i 0))) ∧ ∀ n ∈ zs, (Lit.int k n).wf = true
noncomputable def laidWorld (os : Os) : World :=
  let w0 := World.holding Tryd.prog os ⟨#[], #[], []⟩
  let put (h : Array Obj) (g : Nat) (cs : Array Value) : Array Obj := h.modify g fun
    | .cells _ t frozen => .cells cs t frozen
    | o => o
  let h0 := w0.heap
  let h1 := put h0 1 #[.int .u8 128, .int .u8 191, .int .u8 160, .int .u8 191, .int .u8 128, .int .u8 159, .int .u8 144, .int .u8 191, .int .u8 128, .int .u8 143, .int .u8 0, .int .u8 0, .int .u8 0, .int .u8 0, .int .u8 0, .int .u8 0, .int .u8 0, .int .u8 0, .int .u8 0, .int .u8 0, .int .u8 0, .int .u8 0, .int .u8 0, .int .u8 0, .int .u8 0, .int .u8 0, .int .u8 0, .int .u8 0, .int .u8 0, .int .u8 0, .int .u8 0, .int .u8 0]
  let h2 := put h1 0 ((Go.Pinned.utf8FirstZ.map fun (n : Nat) => Value.int .u8 (n : Int)).toArray)
  { w0 with heap := h2 }
theorem laidWorld_met (os : Os) (args : Array Value) : laidMetH Tryd.prog Rows.natPartsRow.laid ((laidWorld os).forCall (fun _ _ => 0) ⟨#[], args, []⟩).memory :=
  (LaidIn.of_run (P := Tryd.prog) (l := Rows.natPartsRow.laid) [1, 0] 8 (by kernel_rfl) (by kernel_rfl) (by kernel_rfl) (by kernel_rfl)).met
set_option maxRecDepth 100000 in
theorem lifted (os : Os) (started : os.Started) (H : Type) (enc : TypeId × Value → H) :
    ReturnsInHanded {} Tryd.checked os 3 .any (fun w args => (Rows.natPartsSpec.pre enc Tryd.prog Tryd.f3 Rows.natPartsRow.domain false w args ∧ laidMetH Tryd.prog Rows.natPartsRow.laid w) ∧ sizedMet enc Tryd.prog Tryd.f3 (OpenSpec.ofChange Rows.natPartsSpec) false w args) (Rows.natPartsSpec.post enc Tryd.prog Tryd.f3 false true false false) := by
  refine returnsInHanded_of_change_and (C := Tryd.checked) (X := fun w _ => laidMetH Tryd.prog Rows.natPartsRow.laid w) (fun _ _ _ hh h => h.of_heap hh) own started (by kernel_rfl) Tryd.func3
    (ChangeSpec.witness_at (enc := enc) (C := Tryd.checked) (os := os) (X := fun w _ => laidMetH Tryd.prog Rows.natPartsRow.laid w) false (laidWorld os) #[.slice none 0 0, .slice none 0 0] 8 rfl (by kernel_rfl) (by kernel_rfl) (by kernel_rfl) (by kernel_rfl) (by kernel_rfl) (laidWorld_met os _)) ?_
  intro W base args ds gs before hval0 hW hcnd hsz0 hL _
  have hsz : (DataW.weightsEach Tryd.prog (Tryd.f3.params.toList ++ Rows.natPartsSpec.plain.varTypes Tryd.prog) (ds ++ gs)).all (· ≤ reachBytes) = true := hsz0
  have hval : ∀ (j : Nat) t v, Tryd.f3.params[j]? = some t → args[j]? = some v → Value.okWide Tryd.prog W .any base t v := hval0
  have hW' := hW
  obtain ⟨p, q, hA0, hV, rfl, hfz, hnd⟩ := hW
  have hA : DataW.TrodAll enc Tryd.prog W 0 (fun _ => true) true Tryd.f3.params.toList args.toList ds p := hA0
  rw [Tryd.params3] at hA hval hsz
  obtain ⟨v0, vs0, d0, ds0, p0, q0, hargs, rfl, rfl, h0, r0⟩ := trodAll_cons hA
  obtain ⟨v1, vs1, d1, ds1, p1, q1, rfl, rfl, rfl, h1, r1⟩ := trodAll_cons r0
  obtain ⟨rfl, rfl, rfl⟩ := trodAll_nil r1
  obtain rfl : args = #[v0, v1] := by cases args; simp_all
  obtain ⟨rfl, rfl⟩ := trodVars_none hV
  obtain ⟨a0, len0, cap0, rfl⟩ := okWide_slice Tryd.underlying22 (hval 0 22 v0 rfl rfl)
  have k0 := h0
  have lt0 : ∀ x ∈ p0, x.block < W.heap.size := by obtain ⟨m, hm⟩ := k0; exact DataW.trod_lt m _ _ _ hm
  obtain ⟨z0, w0⟩ : ∃ zs, IsRow .u32 W a0 len0 cap0 zs := by
    obtain ⟨fuel, hf⟩ := h0
    rcases open_ints Tryd.underlying22 Tryd.underlying43 (by kernel_rfl) hf with ⟨hcs, _⟩ | ⟨x, l, c, zs, hcs, _, hl, hm, hz, _, hcell, hwz⟩
    · simp [Value.cells] at hcs
      obtain ⟨rfl, rfl, rfl⟩ := hcs
      exact ⟨[], .inl ⟨rfl, rfl, rfl, rfl⟩⟩
    · simp [Value.cells] at hcs
      obtain ⟨rfl, rfl, rfl⟩ := hcs
      exact ⟨zs, .inr ⟨_, rfl, hl, hm, by simpa using hz, hcell, hwz⟩⟩
  have y0 : len0 * 4 ≤ 140737488351232 := Go.Proofs.YtlfpnohpcemkgaaDoorW.PrintWords.sized_ints hsz (j := 0) (t := 22) rfl rfl Tryd.underlying22 Tryd.underlying43 (by kernel_rfl) (by kernel_rfl) h0
  obtain ⟨a1, len1, cap1, rfl⟩ := okWide_slice Tryd.underlying22 (hval 1 22 v1 rfl rfl)
  have k1 := h1
  have lt1 : ∀ x ∈ p1, x.block < W.heap.size := by obtain ⟨m, hm⟩ := k1; exact DataW.trod_lt m _ _ _ hm
  obtain ⟨z1, w1⟩ : ∃ zs, IsRow .u32 W a1 len1 cap1 zs := by
    obtain ⟨fuel, hf⟩ := h1
    rcases open_ints Tryd.underlying22 Tryd.underlying43 (by kernel_rfl) hf with ⟨hcs, _⟩ | ⟨x, l, c, zs, hcs, _, hl, hm, hz, _, hcell, hwz⟩
    · simp [Value.cells] at hcs
      obtain ⟨rfl, rfl, rfl⟩ := hcs
      exact ⟨[], .inl ⟨rfl, rfl, rfl, rfl⟩⟩
    · simp [Value.cells] at hcs
      obtain ⟨rfl, rfl, rfl⟩ := hcs
      exact ⟨zs, .inr ⟨_, rfl, hl, hm, by simpa using hz, hcell, hwz⟩⟩
  have y1 : len1 * 4 ≤ 140737488351232 := Go.Proofs.YtlfpnohpcemkgaaDoorW.PrintWords.sized_ints hsz (j := 1) (t := 22) rfl rfl Tryd.underlying22 Tryd.underlying43 (by kernel_rfl) (by kernel_rfl) h1
  clear hA0 hval0 hsz0 hsz
  refine (PA.gudgeonlaw01_NatParts.walk Pure.NatParts a0 len0 cap0 z0 a1 len1 cap1 z1 W w0 y0 w1 y1).mono fun e W' ⟨he, bel⟩ => ?_
  subst he
  exact ⟨_, rfl, _, _, _, [], _, [], hW', trodAll_mk1 (shut_bool Tryd.underlying4 _), (trodAll_cons_mk (Below.trod laidOut (by kernel_rfl) (of_decide_eq_true (by kernel_rfl)) k0 bel lt0) (trodAll_cons_mk (Below.trod laidOut (by kernel_rfl) (of_decide_eq_true (by kernel_rfl)) k1 bel lt1) trodAll_mk0)), rfl, bel.frame _, fun h => by cases h⟩
theorem over : Rows.natPartsRow.holds Tryd.pinned (OpenSpec.ofChange Rows.natPartsSpec) :=
  OpenClaim.holds_of_wide 3 Tryd.f3 rfl rfl rfl rfl rfl rfl rfl ⟨rfl, rfl, rfl, rfl, rfl⟩ rfl rfl rfl rfl rfl (by kernel_rfl) Tryd.func3 (by kernel_rfl)
    (of_decide_eq_true (by kernel_rfl)) (by unfold Func.isWrapper; first | (rw [if_pos (by decide +kernel)]; kernel_rfl) | (rw [if_neg (by decide +kernel)]; exact ⟨rfl, rfl⟩))
    (fun os started H enc _ => lifted os started H enc)
theorem carded : Rows.NatPartsCardSaid :=
  Claim7.holds_tied_plain_at .later [] [.data, .pinned] true (true, "dbf7fe588360fdfb41ef3d3495ab37953e16fc13eed55bf566d1a048127c9ca8") false
    over (fun _ h => by cases h) (by kernel_rfl) (fun _ h => by cases h) natParts_row_tie rfl ⟨rfl, rfl⟩ (by kernel_rfl) rfl
    (fun f fn hf hfn => by
      obtain rfl : f = 3 := Option.some.inj ((show Tryd.prog.funcNamed "gudgeon/gudgeonlaw01.NatParts" = some 3 by kernel_rfl).symm.trans hf) |>.symm
      obtain rfl : fn = Tryd.f3 := (Option.some.inj (Tryd.func3.symm.trans hfn)).symm
      exact ⟨by kernel_rfl, fun j t ht => by
        rw [Tryd.params3] at ht
        have hm := Array.mem_of_getElem? ht
        simp only [List.mem_toArray, List.mem_cons, List.not_mem_nil, or_false] at hm
        rcases hm with rfl | rfl
        · exact (show Tryd.prog.wantsStandIn 22 = false by kernel_rfl)
        · exact (show Tryd.prog.wantsStandIn 22 = false by kernel_rfl)⟩)
    (by kernel_rfl)
end Go.Proofs.YtlfpnohpcemkgaaDoor.natParts
namespace Go.Proofs.YtlfpnohpcemkgaaDoor
/-- The card, under a short name, for the claim. -/
theorem natParts_card : Rows.NatPartsCardSaid := natParts.carded
end Go.Proofs.YtlfpnohpcemkgaaDoor
