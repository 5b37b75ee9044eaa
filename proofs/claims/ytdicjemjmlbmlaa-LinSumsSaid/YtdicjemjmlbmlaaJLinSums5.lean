/- Joined by wip/tools/shake.py for the claim of LinSums: NatR, PAx15, PAx16, NatT, WhoR, HSameE, HRd, HLAt, HConM, HLAdd, HLOfV, PAx19, PAx21, WhoS, HRAt, LinH, HRNorm. -/
import Derived.Test.YtdicjemjmlbmlaaJLinSums3
import Derived.Test.YtdicjemjmlbmlaaJLinSums4
import Derived.Test.YtdicjemjmlbmlaaJLinSums2
import Derived.StillTailTactics
import Derived.Deep.QuietTactic
import Derived.BigQuiet
import Derived.WalkKit
import Derived.KernelRfl
import Derived.Test.YtdicjemjmlbmlaaJLinSums1
import Derived.Shelf.RegionOpenPlain
/- The reference's numbers by bits, the lowest one first: what its functions compute, as numbers. -/
namespace Go.Proofs.Ytdicjemjmlbmlaa.V
set_option linter.unusedVariables false
set_option linter.unusedSimpArgs false
open Go.RowKit Go.Proofs.Ytdicjemjmlbmlaa.PA Go.Proofs.Ytdicjemjmlbmlaa.H Go.Proofs.YtdicjemjmlbmlaaW.PrintWords Go.Proofs.YtdicjemjmlbmlaaW.PrintLast Go.Proofs.YtdicjemjmlbmlaaW.PrintMore

def b2i (b : Bool) : Int := if b then 1 else 0
theorem b2i_rng (b : Bool) : 0 ≤ b2i b ∧ b2i b ≤ 1 := by cases b <;> simp [b2i]
/-- What bits are worth. -/
def bval : List Bool → Int
  | [] => 0
  | b :: r => b2i b + 2 * bval r
def p2 (n : Nat) : Int := 2 ^ n
theorem p2_zero : p2 0 = 1 := rfl
theorem p2_succ (n : Nat) : p2 (n + 1) = 2 * p2 n := by unfold p2; rw [Int.pow_succ]; omega
theorem p2_pos (n : Nat) : 0 < p2 n := by
  induction n with
  | zero => decide
  | succ n ih => rw [p2_succ]; omega
theorem p2_add (m n : Nat) : p2 (m + n) = p2 m * p2 n := by unfold p2; exact Int.pow_add ..
theorem p2_le {a b : Nat} (h : a ≤ b) : p2 a ≤ p2 b := by
  obtain ⟨d, rfl⟩ := Nat.exists_eq_add_of_le h
  rw [p2_add]
  have := p2_pos a
  have := p2_pos d
  calc p2 a = p2 a * 1 := by omega
    _ ≤ _ := Int.mul_le_mul_of_nonneg_left (by omega) (by omega)
theorem pw_p2 (n : Nat) : pw n = p2 (32 * n) := by unfold pw p2; rw [show (4294967296 : Int) = 2 ^ 32 from rfl, Int.pow_mul]
theorem bval_nonneg (l : List Bool) : 0 ≤ bval l := by
  induction l with
  | nil => simp [bval]
  | cons b l ih => have := b2i_rng b; simp only [bval]; omega
theorem bval_lt (l : List Bool) : bval l < p2 l.length := by
  induction l with
  | nil => simp [bval, p2_zero]
  | cons b l ih => have := b2i_rng b; simp only [bval, List.length_cons, p2_succ]; omega
theorem bval_append (a b : List Bool) : bval (a ++ b) = bval a + p2 a.length * bval b := by
  induction a with
  | nil => simp [bval, p2_zero]
  | cons x a ih => simp only [List.cons_append, bval, ih, List.length_cons, p2_succ]; grind
theorem bval_snoc (a : List Bool) (x : Bool) : bval (a ++ [x]) = bval a + p2 a.length * b2i x := by rw [bval_append]; simp [bval]
/-- A number's bits, without noughts behind. -/
def bitN (n : Nat) : List Bool := if h : n = 0 then [] else decide (n % 2 = 1) :: bitN (n / 2)
termination_by n
decreasing_by omega
def bits (n : Int) : List Bool := bitN n.toNat
theorem bits_zero : bits 0 = [] := by unfold bits; rw [bitN]; rfl
theorem bval_bitN (n : Nat) : bval (bitN n) = n := by
  induction n using Nat.strongRecOn with
  | _ n ih =>
    rw [bitN]
    split
    · rename_i h; simp [bval, h]
    · simp only [bval]; rw [ih _ (by omega)]
      by_cases h : n % 2 = 1
      · rw [decide_eq_true h]; simp only [b2i, if_true]; omega
      · rw [decide_eq_false h]; simp only [b2i, Bool.false_eq_true, if_false]; omega
theorem bval_bits {n : Int} (h : 0 ≤ n) : bval (bits n) = n := by unfold bits; rw [bval_bitN]; omega
theorem bits_cons (b : Bool) (n : Int) (hn : 0 ≤ n) (h : b2i b + 2 * n ≠ 0) : bits (b2i b + 2 * n) = b :: bits n := by
  have hb := b2i_rng b
  unfold bits
  rw [bitN, dif_neg (by omega)]
  have e1 : decide ((b2i b + 2 * n).toNat % 2 = 1) = b := by
    cases b
    · rw [decide_eq_false]; simp only [b2i, Bool.false_eq_true, if_false]; omega
    · rw [decide_eq_true]; simp only [b2i, if_true]; omega
  have e2 : (b2i b + 2 * n).toNat / 2 = n.toNat := by omega
  rw [e1, e2]
theorem bits_last (l : List Bool) : bits (bval (l ++ [true])) = l ++ [true] := by
  induction l with
  | nil => have := bits_cons true 0 (by omega) (by decide); rw [bits_zero] at this; simpa [bval] using this
  | cons b l ih =>
    have h0 := bval_nonneg (l ++ [true])
    have h1 : 0 < bval (l ++ [true]) := by
      rw [bval_snoc]
      have := bval_nonneg l
      have := p2_pos l.length
      simp [b2i]; omega
    have hb := b2i_rng b
    simp only [List.cons_append, bval]
    rw [bits_cons b _ h0 (by omega), ih]
theorem bits_length_le {n : Int} {k : Nat} (h0 : 0 ≤ n) (h : n < p2 k) : (bits n).length ≤ k := by
  induction k generalizing n with
  | zero => rw [p2_zero] at h; rw [show n = 0 by omega, bits_zero]; simp
  | succ k ih =>
    rw [p2_succ] at h
    by_cases hn : n = 0
    · rw [hn, bits_zero]; simp
    · have e : n = b2i (decide (n % 2 = 1)) + 2 * (n / 2) := by
        by_cases h : n % 2 = 1
        · rw [decide_eq_true h]; simp only [b2i, if_true]; omega
        · rw [decide_eq_false h]; simp only [b2i, Bool.false_eq_true, if_false]; omega
      rw [e, bits_cons _ _ (by omega) (by omega)]
      have := ih (n := n / 2) (by omega) (by omega)
      simp; omega
theorem lt_of_bits_length {n : Int} {k : Nat} (h0 : 0 ≤ n) (h : (bits n).length ≤ k) : n < p2 k := by
  have := bval_lt (bits n)
  rw [bval_bits h0] at this
  have := p2_le h
  omega
theorem rdOf_D (l : List Bool) (i : Nat) : rdOf false l (i : Int) = l.getD i false := by simp [rdOf]
theorem bval_take_getD (l : List Bool) (i : Nat) : bval (l.take (i + 1)) = bval (l.take i) + p2 i * b2i (l.getD i false) := by
  by_cases h : i < l.length
  · rw [List.take_succ_eq_append_getElem h, bval_snoc, List.length_take, Nat.min_eq_left (Nat.le_of_lt h)]
    simp [h]
  · rw [List.take_of_length_le (by omega), List.take_of_length_le (by omega), List.getD_eq_getElem?_getD, List.getElem?_eq_none (by omega)]
    simp [b2i]
theorem bval_drop_getD (l : List Bool) (i : Nat) : bval (l.drop i) = b2i (l.getD i false) + 2 * bval (l.drop (i + 1)) := by
  by_cases h : i < l.length
  · rw [List.drop_eq_getElem_cons h]
    simp [bval, h]
  · rw [List.drop_eq_nil_of_le (by omega), List.drop_eq_nil_of_le (by omega), List.getD_eq_getElem?_getD, List.getElem?_eq_none (by omega)]
    simp [b2i, bval]
theorem bval_take_drop (l : List Bool) (i : Nat) (h : i ≤ l.length) : bval l = bval (l.take i) + p2 i * bval (l.drop i) := by
  have := bval_append (l.take i) (l.drop i)
  rwa [List.take_append_drop, List.length_take, Nat.min_eq_left h] at this
def LB (l : List Bool) : Prop := l.length ≤ 1000000000
theorem btrim_l0 (l : List Bool) (hn : l.length ≤ 2000000000) (d : Nat) (hd : d ≤ l.length) (he : bval l = bval (l.take d)) : Ev (fun k => gudgeonref01_trim.l0 k l (d : Int)) (bits (bval l)) := by
  induction d with
  | zero =>
    refine Ev.step (f := fun _ => some _) (fun k => ?_) (Ev.now _)
    simp only [gudgeonref01_trim.l0]
    rw [if_neg (by omega), if_pos (by omega), if_pos (by omega), if_pos (by simp), he]
    simp [bval, bits_zero]
  | succ d ih =>
    have hdl : d < l.length := by omega
    have e1 : l.take (d + 1) = l.take d ++ [l[d]] := List.take_succ_eq_append_getElem hdl
    have hg : l.getD d false = l[d] := by simp [hdl]
    cases hb : l[d] with
    | true =>
      refine Ev.step (f := fun _ => some _) (fun k => ?_) (Ev.now _)
      simp only [gudgeonref01_trim.l0]
      rw [if_pos (by omega), w64 (x := ((d + 1 : Nat) : Int) - 1) (by omega) (by omega), show ((d + 1 : Nat) : Int) - 1 = (d : Int) by omega, if_pos (by omega), if_pos (by omega), rdOf_D, hg, hb, if_pos rfl, if_pos (by omega), if_pos (by omega), if_pos (by simp; omega), he, Int.toNat_natCast, e1, hb, bits_last]
      rfl
    | false =>
      rw [e1, hb] at he
      have : bval (l.take d ++ [false]) = bval (l.take d) := by rw [bval_snoc]; simp [b2i]
      rw [this] at he
      refine Ev.step (fun k => ?_) (ih (by omega) he)
      simp only [gudgeonref01_trim.l0]
      rw [if_pos (by omega), w64 (x := ((d + 1 : Nat) : Int) - 1) (by omega) (by omega), show ((d + 1 : Nat) : Int) - 1 = (d : Int) by omega, if_pos (by omega), if_pos (by omega), rdOf_D, hg, hb, if_neg (by decide)]
theorem btrim_ev (l : List Bool) (hn : l.length ≤ 2000000000) : Ev (fun k => gudgeonref01_trim.f k l) (bits (bval l)) :=
  Ev.congr (fun k => rfl) (btrim_l0 l hn l.length (Nat.le_refl _) (by rw [List.take_of_length_le (Nat.le_refl _)]))
theorem Bits_l1 (l : List Int) (hL : Lim l) (hn : l.length < 10000000) (i : Nat) (hi : i < l.length) (r : List Bool)
    (hc : ∀ out, out.length = 32 * (i + 1) → bval out = val (l.take (i + 1)) → Ev (fun k => gudgeonref01_Bits.l0 k l out ((i + 1 : Nat) : Int)) r) (d : Nat) : ∀ (j : Nat) (out : List Bool) (x : Int), j + d = 32 → out.length = 32 * i + j → 0 ≤ x → x < p2 d → bval out + p2 (32 * i + j) * x = val (l.take (i + 1)) →
    Ev (fun k => gudgeonref01_Bits.l1 k l out (i : Int) x (j : Int)) r := by
  induction d with
  | zero =>
    intro j out x hj ho x0 x1 hv
    rw [p2_zero] at x1
    obtain rfl : x = 0 := by omega
    rw [Int.mul_zero, Int.add_zero] at hv
    refine Ev.step (fun k => ?_) (hc out (by omega) hv)
    simp only [gudgeonref01_Bits.l1]
    rw [if_neg (by omega), w64 (by omega) (by omega)]
    rfl
  | succ d ih =>
    intro j out x hj ho x0 x1 hv
    rw [p2_succ] at x1
    have hbit : ((Int.tmod x 2) == 1) = decide (x % 2 = 1) := by
      rw [Int.tmod_eq_emod_of_nonneg x0, Bool.eq_iff_iff]; simp
    have hx32 : x < 4294967296 := by
      have := p2_le (show d + 1 ≤ 32 by omega)
      rw [p2_succ] at this
      have e : p2 32 = 4294967296 := rfl
      omega
    refine Ev.step (fun k => ?_) (ih (j + 1) (out ++ [decide (x % 2 = 1)]) (x / 2) (by omega) (by simp; omega) (by omega) (by omega) ?_)
    · simp only [gudgeonref01_Bits.l1]
      rw [if_pos (by omega), if_pos (by omega), hbit, Int.tdiv_eq_ediv_of_nonneg x0, Int.emod_eq_of_lt (a := x / 2) (by omega) (by omega), w64 (by omega) (by omega)]
      rfl
    · rw [bval_snoc, ho, ← Nat.add_assoc, p2_succ, ← hv]
      have e : b2i (decide (x % 2 = 1)) = x % 2 := by
        by_cases h : x % 2 = 1
        · rw [decide_eq_true h, h]; rfl
        · rw [decide_eq_false h]; simp only [b2i, Bool.false_eq_true, if_false]; omega
      rw [e]
      have := Int.mul_ediv_add_emod x 2
      generalize x / 2 = q at *
      generalize x % 2 = r at *
      grind
theorem Bits_l0 (l : List Int) (hL : Lim l) (hn : l.length < 10000000) (d : Nat) : ∀ (i : Nat) (out : List Bool), i + d = l.length → out.length = 32 * i → bval out = val (l.take i) →
    Ev (fun k => gudgeonref01_Bits.l0 k l out (i : Int)) (bits (val l)) := by
  induction d with
  | zero =>
    intro i out hi ho hv
    rw [List.take_of_length_le (by omega)] at hv
    have := btrim_ev out (by omega)
    rw [hv] at this
    refine Ev.step (fun k => ?_) (Ev.bind (f := fun _ t => some t) this (Ev.now _))
    simp only [gudgeonref01_Bits.l0]
    rw [if_neg (by omega)]
  | succ d ih =>
    intro i out hi ho hv
    have hil : i < l.length := by omega
    have g := hL.get i hil
    refine Ev.step (fun k => ?_) (Bits_l1 l hL hn i hil _ (fun out' h1 h2 => ih (i + 1) out' (by omega) h1 h2) 32 0 out l[i] (by omega) (by omega) g.1 g.2 ?_)
    · simp only [gudgeonref01_Bits.l0]
      rw [if_pos (by omega), if_pos (by omega), rd_get _ _ hil]
      rfl
    · rw [Nat.add_zero, hv, val_take_succ _ _ hil, pw_p2]
theorem Bits_ev (l : List Int) (hL : Lim l) (hn : l.length < 10000000) : Ev (fun k => gudgeonref01_Bits.f k l) (bits (val l)) :=
  Ev.congr (fun k => rfl) (Bits_l0 l hL hn l.length 0 [] (by omega) rfl (by simp [val, bval]))
theorem at_ev (l : List Bool) (i : Nat) : gudgeonref01_at.f l (i : Int) = some (l.getD i false) := by
  unfold gudgeonref01_at.f
  by_cases h : i < l.length
  · rw [if_pos (by omega), if_pos (by omega), rdOf_D]
  · rw [if_neg (by omega), List.getD_eq_getElem?_getD, List.getElem?_eq_none (by omega)]; rfl
/-! ### order -/
theorem bcmp_l0 (a b : List Bool) (ha : LB a) (hb : LB b) (m : Nat) (hma : a.length ≤ m) (hmb : b.length ≤ m) (hm : m ≤ 1000000000) (d : Nat) (hd : d ≤ m) (he : bval (a.drop d) = bval (b.drop d)) : Ev (fun k => gudgeonref01_cmp.l0 k a b ((d : Int) - 1)) (cmpI (bval a) (bval b)) := by
  induction d with
  | zero =>
    simp only [List.drop_zero] at he
    refine Ev.step (f := fun _ => some _) (fun k => ?_) (Ev.now _)
    simp only [gudgeonref01_cmp.l0]
    rw [if_neg (by omega), he]
    unfold cmpI
    rw [if_neg (by omega), if_neg (by omega)]
  | succ d ih =>
    have e0 : ((d + 1 : Nat) : Int) - 1 = (d : Int) := by omega
    have da := bval_drop_getD a d
    have db := bval_drop_getD b d
    have sa : bval a = bval (a.take d) + p2 d * bval (a.drop d) := by
      by_cases h : d ≤ a.length
      · exact bval_take_drop a d h
      · rw [List.take_of_length_le (by omega), List.drop_eq_nil_of_le (by omega)]; simp [bval]
    have sb : bval b = bval (b.take d) + p2 d * bval (b.drop d) := by
      by_cases h : d ≤ b.length
      · exact bval_take_drop b d h
      · rw [List.take_of_length_le (by omega), List.drop_eq_nil_of_le (by omega)]; simp [bval]
    have ta0 := bval_nonneg (a.take d)
    have tb0 := bval_nonneg (b.take d)
    have ta1 : bval (a.take d) < p2 d := by have := bval_lt (a.take d); have := p2_le (show (a.take d).length ≤ d by rw [List.length_take]; omega); omega
    have tb1 : bval (b.take d) < p2 d := by have := bval_lt (b.take d); have := p2_le (show (b.take d).length ≤ d by rw [List.length_take]; omega); omega
    have hp := p2_pos d
    rw [e0]
    cases hx : a.getD d false with
    | true =>
      cases hy : b.getD d false with
      | true =>
        refine Ev.step (f := fun k => gudgeonref01_cmp.j2 k a b (d : Int) true true false) (fun k => ?_) (Ev.step (fun k => ?_) (ih (by omega) (by rw [da, db, hx, hy, he])))
        · simp only [gudgeonref01_cmp.l0]
          rw [if_pos (by omega), at_ev, at_ev, hx, hy]
          simp only [Option.bind_some]
          rw [if_neg (by decide)]
        · simp only [gudgeonref01_cmp.j2]
          rw [if_neg (by decide), if_neg (by decide), w64 (by omega) (by omega)]
      | false =>
        refine Ev.step (f := fun k => gudgeonref01_cmp.j2 k a b (d : Int) true false true) (fun k => ?_) (Ev.step (f := fun _ => some _) (fun k => ?_) (Ev.now _))
        · simp only [gudgeonref01_cmp.l0]
          rw [if_pos (by omega), at_ev, at_ev, hx, hy]
          simp only [Option.bind_some]
          rw [if_pos (by decide)]
        · simp only [gudgeonref01_cmp.j2]
          rw [if_pos trivial]
          rw [hx] at da
          rw [hy] at db
          simp only [b2i, if_true, Bool.false_eq_true, if_false] at da db
          have : bval (a.drop d) = bval (b.drop d) + 1 := by omega
          rw [this, Int.mul_add, Int.mul_one] at sa
          unfold cmpI
          rw [if_neg (by omega), if_pos (by omega)]
    | false =>
      cases hy : b.getD d false with
      | true =>
        refine Ev.step (f := fun k => gudgeonref01_cmp.j2 k a b (d : Int) false true false) (fun k => ?_) (Ev.step (f := fun _ => some _) (fun k => ?_) (Ev.now _))
        · simp only [gudgeonref01_cmp.l0]
          rw [if_pos (by omega), at_ev, at_ev, hx, hy]
          simp only [Option.bind_some]
          rw [if_pos (by decide)]
        · simp only [gudgeonref01_cmp.j2]
          rw [if_neg (by decide), if_pos (by decide)]
          rw [hx] at da
          rw [hy] at db
          simp only [b2i, if_true, Bool.false_eq_true, if_false] at da db
          have : bval (b.drop d) = bval (a.drop d) + 1 := by omega
          rw [this, Int.mul_add, Int.mul_one] at sb
          unfold cmpI
          rw [if_pos (by omega)]
      | false =>
        refine Ev.step (f := fun k => gudgeonref01_cmp.j2 k a b (d : Int) false false false) (fun k => ?_) (Ev.step (fun k => ?_) (ih (by omega) (by rw [da, db, hx, hy, he])))
        · simp only [gudgeonref01_cmp.l0]
          rw [if_pos (by omega), at_ev, at_ev, hx, hy]
          simp only [Option.bind_some]
          rw [if_neg (by decide)]
        · simp only [gudgeonref01_cmp.j2]
          rw [if_neg (by decide), if_neg (by decide), w64 (by omega) (by omega)]
theorem bcmp_ev (a b : List Bool) (ha : LB a) (hb : LB b) : Ev (fun k => gudgeonref01_cmp.f k a b) (cmpI (bval a) (bval b)) := by
  have ha' := ha
  have hb' := hb
  unfold LB at ha' hb'
  by_cases h : b.length > a.length
  · refine Ev.congr (fun k => ?_) (Ev.step (g := fun k => gudgeonref01_cmp.j0 k a b (b.length : Int)) (fun k => ?_) (bcmp_l0 a b ha hb b.length (by omega) (Nat.le_refl _) hb' b.length (Nat.le_refl _) (by rw [List.drop_eq_nil_of_le (by omega), List.drop_eq_nil_of_le (by omega)])))
    · unfold gudgeonref01_cmp.f
      rw [if_pos (by omega)]
    · simp only [gudgeonref01_cmp.j0]
      rw [w64 (by omega) (by omega)]
  · refine Ev.congr (fun k => ?_) (Ev.step (g := fun k => gudgeonref01_cmp.j0 k a b (a.length : Int)) (fun k => ?_) (bcmp_l0 a b ha hb a.length (Nat.le_refl _) (by omega) ha' a.length (Nat.le_refl _) (by rw [List.drop_eq_nil_of_le (by omega), List.drop_eq_nil_of_le (by omega)])))
    · unfold gudgeonref01_cmp.f
      rw [if_neg (by omega)]
    · simp only [gudgeonref01_cmp.j0]
      rw [w64 (by omega) (by omega)]
/-! ### sums -/
theorem step_badd {V P c A B x y q r : Int} (h : V + P * c = A + B) (e : r + 2 * q = c + (x + y)) : V + P * r + (2 * P) * q = A + P * x + (B + P * y) := by grind
theorem badd_j2 (a b : List Bool) (out : List Bool) (c x y : Bool) (i : Nat) (n : Int) (hn : n = b2i x) (ho : out.length ≤ 2000000000) (hi : i ≤ 2000000000) (r : List Bool)
    (h : Ev (fun k => gudgeonref01_add.l0 k a b (out ++ [decide ((b2i x + b2i y + b2i c) % 2 = 1)]) (decide (b2i x + b2i y + b2i c > 1)) ((i + 1 : Nat) : Int)) r) : Ev (fun k => gudgeonref01_add.j2 k a b out c (i : Int) y n) r := by
  subst hn
  refine Ev.step (fun k => ?_) h
  simp only [gudgeonref01_add.j2]
  cases x <;> cases y <;> cases c <;> simp only [b2i, if_true, Bool.false_eq_true, if_false] <;> rw [if_pos (by omega), w64 (x := (i : Int) + 1) (by omega) (by omega)] <;> simp [w01, w11, w21]
theorem badd_l0 (a b : List Bool) (ha : LB a) (hb : LB b) (d : Nat) : ∀ (i : Nat) (out : List Bool) (c : Bool), i + d = max a.length b.length + 2 → out.length = i → bval out + p2 i * b2i c = bval (a.take i) + bval (b.take i) → (i = max a.length b.length + 1 → c = false) →
    i ≤ max a.length b.length + 1 → Ev (fun k => gudgeonref01_add.l0 k a b out c (i : Int)) (bits (bval a + bval b)) := by
  unfold LB at ha hb
  induction d with
  | zero => intro i out c hi; omega
  | succ d ih =>
    intro i out c hi ho hv hend hle
    have hta : bval (a.take (i + 1)) = _ := bval_take_getD a i
    have htb : bval (b.take (i + 1)) = _ := bval_take_getD b i
    have hgo : (a.length > i ∨ b.length > i ∨ c = true) → Ev (fun k => gudgeonref01_add.j1 k a b out c (i : Int) true) (bits (bval a + bval b)) := by
      intro hor
      have hile : i ≤ max a.length b.length := by
        by_cases h : i = max a.length b.length + 1
        · have := hend h
          subst this
          simp at hor
          omega
        · omega
      have hnext := ih (i + 1) (out ++ [decide ((b2i (a.getD i false) + b2i (b.getD i false) + b2i c) % 2 = 1)]) (decide (b2i (a.getD i false) + b2i (b.getD i false) + b2i c > 1)) (by omega) (by simp [ho]) (by
        rw [bval_snoc, ho, p2_succ, hta, htb]
        apply step_badd hv
        cases a.getD i false <;> cases b.getD i false <;> cases c <;> rfl) (by
        intro hmax
        have e1 : i = max a.length b.length := by omega
        have hxa : a.getD i false = false := by rw [List.getD_eq_getElem?_getD, List.getElem?_eq_none (by omega)]; rfl
        have hxb : b.getD i false = false := by rw [List.getD_eq_getElem?_getD, List.getElem?_eq_none (by omega)]; rfl
        rw [hxa, hxb]
        cases c <;> rfl) (by omega)
      refine Ev.step (f := fun k => gudgeonref01_add.j2 k a b out c (i : Int) (b.getD i false) (b2i (a.getD i false))) (fun k => ?_) (badd_j2 a b out c (a.getD i false) (b.getD i false) i _ rfl (by omega) (by omega) _ hnext)
      simp only [gudgeonref01_add.j1, if_true]
      rw [at_ev, at_ev]
      simp only [Option.bind_some]
      cases a.getD i false
      · rw [if_neg (by decide)]; rfl
      · rw [if_pos rfl]; rfl
    by_cases h1 : i < a.length
    · refine Ev.step (fun k => ?_) (hgo (.inl h1))
      simp only [gudgeonref01_add.l0]
      rw [if_pos (by omega)]
    by_cases h2 : i < b.length
    · refine Ev.step (fun k => ?_) (hgo (.inr (.inl h2)))
      simp only [gudgeonref01_add.l0]
      rw [if_neg (by omega), if_pos (by omega)]
    cases c with
    | true =>
      refine Ev.step (fun k => ?_) (hgo (.inr (.inr rfl)))
      simp only [gudgeonref01_add.l0]
      rw [if_neg (by omega), if_neg (by omega)]
    | false =>
      have ht := btrim_ev out (by omega)
      rw [List.take_of_length_le (by omega), List.take_of_length_le (by omega)] at hv
      simp only [b2i, Bool.false_eq_true, if_false, Int.mul_zero, Int.add_zero] at hv
      rw [hv] at ht
      refine Ev.step (f := fun k => gudgeonref01_add.j1 k a b out false (i : Int) false) (fun k => ?_) (Ev.step (fun k => ?_) (Ev.bind (f := fun _ t => some t) ht (Ev.now _)))
      · simp only [gudgeonref01_add.l0]
        rw [if_neg (by omega), if_neg (by omega)]
      · simp only [gudgeonref01_add.j1]
        rw [if_neg (by decide)]
theorem badd_ev (a b : List Bool) (ha : LB a) (hb : LB b) : Ev (fun k => gudgeonref01_add.f k a b) (bits (bval a + bval b)) :=
  Ev.congr (fun k => rfl) (badd_l0 a b ha hb (max a.length b.length + 2) 0 [] false (by omega) rfl (by simp [bval, b2i]) (fun _ => rfl) (by omega))
end Go.Proofs.Ytdicjemjmlbmlaa.V
/- Written by a program of this session, wip/tools/patch_print.py, over the kit's print of the loaded functions. -/
namespace Go.Proofs.Ytdicjemjmlbmlaa.H
end Go.Proofs.Ytdicjemjmlbmlaa.H
namespace Go.Proofs.Ytdicjemjmlbmlaa.PA
open Go.RowKit Go.Proofs.YtdicjemjmlbmlaaW.PrintWords Go.Proofs.YtdicjemjmlbmlaaW.PrintLast Go.Proofs.YtdicjemjmlbmlaaW.PrintMore Go.Proofs.Ytdicjemjmlbmlaa.H
attribute [local go_sem] max2_int min2_int max_two min_two max_three min_three max_four min_four   -- for this text's walks alone
attribute [local go_sem] box_twice
set_option linter.unusedVariables false
set_option linter.unusedSimpArgs false

/-! ### gudgeonref01_sub: function 96 -/
mutual
def gudgeonref01_sub.l0 : Nat → List Bool → List Bool → List Bool → Bool → Int → Option (List Bool)
 | 0, _, _, _, _, _ => none
 | k + 1, x0, x1, x5, x6, x7 => if x7 < (x0.length : Int) then (if 0 ≤ x7 then (if rdOf false x0 x7 = true then (gudgeonref01_sub.j1 k x0 x1 x5 x6 x7 (0 + 1)) else (gudgeonref01_sub.j1 k x0 x1 x5 x6 x7 0)) else (none)) else ((gudgeonref01_trim.f k x5).bind fun t694 => (some t694))
def gudgeonref01_sub.j1 : Nat → List Bool → List Bool → List Bool → Bool → Int → Int → Option (List Bool)
 | 0, _, _, _, _, _, _ => none
 | k + 1, x0, x1, x5, x6, x7, x8 => (gudgeonref01_at.f x1 x7).bind fun t698 => (if t698 = true then (if x6 = true then (if (wrap64 ((wrap64 (x8 - 1)) - 1)) = 1 then (if x5.length < 140737488355328 then (gudgeonref01_sub.l0 k x0 x1 (x5 ++ [true]) (decide ((wrap64 ((wrap64 (x8 - 1)) - 1)) < 0)) (wrap64 (x7 + 1))) else (none)) else (if x5.length < 140737488355328 then (gudgeonref01_sub.l0 k x0 x1 (x5 ++ [((wrap64 ((wrap64 (x8 - 1)) - 1)) == (-1))]) (decide ((wrap64 ((wrap64 (x8 - 1)) - 1)) < 0)) (wrap64 (x7 + 1))) else (none))) else (if (wrap64 (x8 - 1)) = 1 then (if x5.length < 140737488355328 then (gudgeonref01_sub.l0 k x0 x1 (x5 ++ [true]) (decide ((wrap64 (x8 - 1)) < 0)) (wrap64 (x7 + 1))) else (none)) else (if x5.length < 140737488355328 then (gudgeonref01_sub.l0 k x0 x1 (x5 ++ [((wrap64 (x8 - 1)) == (-1))]) (decide ((wrap64 (x8 - 1)) < 0)) (wrap64 (x7 + 1))) else (none)))) else (if x6 = true then (if (wrap64 (x8 - 1)) = 1 then (if x5.length < 140737488355328 then (gudgeonref01_sub.l0 k x0 x1 (x5 ++ [true]) (decide ((wrap64 (x8 - 1)) < 0)) (wrap64 (x7 + 1))) else (none)) else (if x5.length < 140737488355328 then (gudgeonref01_sub.l0 k x0 x1 (x5 ++ [((wrap64 (x8 - 1)) == (-1))]) (decide ((wrap64 (x8 - 1)) < 0)) (wrap64 (x7 + 1))) else (none))) else (if x8 = 1 then (if x5.length < 140737488355328 then (gudgeonref01_sub.l0 k x0 x1 (x5 ++ [true]) (decide (x8 < 0)) (wrap64 (x7 + 1))) else (none)) else (if x5.length < 140737488355328 then (gudgeonref01_sub.l0 k x0 x1 (x5 ++ [(x8 == (-1))]) (decide (x8 < 0)) (wrap64 (x7 + 1))) else (none)))))
end
def gudgeonref01_sub.f (k : Nat) (l0 : List Bool) (l1 : List Bool) : Option (List Bool) := gudgeonref01_sub.l0 k l0 l1 ([] : List Bool) false 0
set_option maxHeartbeats 8000000 in
set_option maxRecDepth 100000 in
theorem gudgeonref01_sub.calls (k : Nat) (A0 : Option Addr) (c0 : Nat) (l0 : List Bool) (A1 : Option Addr) (c1 : Nat) (l1 : List Bool) (r : List Bool) (w : World) (hr0 : Kd.C Kd.bool w A0 l0.length l0) (hc0 : l0.length ≤ c0) (hr1 : Kd.C Kd.bool w A1 l1.length l1) (hc1 : l1.length ≤ c1) (h : gudgeonref01_sub.f k l0 l1 = some r) :
  Calls Try.prog 96 #[.slice A0 l0.length c0, .slice A1 l1.length c1] w fun e w' => ∃ v0_ : Value, e = .returned (v0_) ∧ Kd.R Kd.bool 4 w' w.heap.size (fun _ => True) v0_ r ∧ Below w.heap.size w w' := by
 have HR0 := Aside0.mk hr0
 have HC0 := Aside0.mk hc0
 clear hr0 hc0
 have HR1 := Aside0.mk hr1
 have HC1 := Aside0.mk hc1
 clear hr1 hc1
 have HB := Aside0.mk (Below.refl w.heap.size w)
 have H : (gudgeonref01_sub.l0 k l0 l1 ([] : List Bool) false 0) = some r := h
 clear h
 have H' := Aside0.mk H
 clear H
 go_enter Try.func96, Try.ntmps96
 go_wp2
 go_loopg [5, 6, 7] k (fun kq v5 v6 v7 w' => ∃ (x5_1 : List Bool) (x6_1 : Bool) (x7_1 : Int), v6 = .bool x6_1 ∧ v7 = .int .i64 x7_1 ∧ Aside0 (gudgeonref01_sub.l0 kq l0 l1 x5_1 x6_1 x7_1 = some r) ∧ Aside0 (kq ≤ k) ∧ Aside0 (Kd.R Kd.bool 4 w' w.heap.size (fun _ => True) v5 x5_1) ∧ Aside0 (Below w.heap.size w w'))
 case atStart => exact ⟨(([] : List Bool)), (false), (0), (by first | rfl | (simp; done)), (by first | rfl | (simp; done)), H', ⟨Nat.le_refl _⟩, ⟨by first | exact Kd.R_nil _ _ _ _ _ | exact Kd.N_nil _ _ _ _ _ | exact Kd.V_nil _ _ _ _ _ | exact Kd.Q_nil _ _ _ _ _ | exact Kd.S_nil _ _ _ _ _⟩, ⟨HB.out⟩⟩
 case round =>
  clear H'
  try clear c1
  try clear p2
  obtain ⟨x5_1, x6_1, x7_1, rfl, rfl, HA, HK1, HO_5, HB⟩ := hrel
  cases gk with
  | zero => exact absurd HA.out (by simp [gudgeonref01_sub.l0])
  | succ k1 =>
   have H := HA.out
   clear HA
   simp only [gudgeonref01_sub.l0] at H
   by_cases c3 : x7_1 < (l0.length : Int)
   ·rw [if_pos c3] at H
    have c3b0 : decide (x7_1 < (l0.length : Int)) = true := decide_eq_true c3
    clear c3
    by_cases c4 : 0 ≤ x7_1
    ·rw [if_pos c4] at H
     have c4b0 : decide (0 ≤ x7_1) = true := decide_eq_true c4
     clear c4
     have HC5 := Aside0.mk H
     clear H
     have p697 : 0 ≤ (x7_1 : Int) := of_decide_eq_true (by first | (with_reducible assumption) | assumption)
     have q697 : x7_1 < (l0.length : Int) := of_decide_eq_true (by first | (with_reducible assumption) | assumption)
     obtain ⟨ad697, e697, hx697_0⟩ := Kd.at_bool HR0.out x7_1 p697 q697
     cases e697
     replace hx697_0 := (HB.out.cell (World.block_lt_of_cell? w _ hx697_0)).trans hx697_0
     replace p697 := eq_true p697
     replace q697 := eq_true q697
     go_upto_if 18 with (fail)
     go_cut [8] (fun v8 wc => ∃ (kq : Nat) (x8_4 : Int), v8 = .int .i64 x8_4 ∧ Aside0 (gudgeonref01_sub.j1 kq l0 l1 x5_1 x6_1 x7_1 x8_4 = some r) ∧ Aside0 (kq ≤ k1) ∧ Aside0 (Kd.R Kd.bool 4 wc w.heap.size (fun _ => True) u5 x5_1) ∧ Aside0 (Below w.heap.size w wc))
     case first =>
      have H := HC5.out
      clear HC5
      obtain ⟨bq6, hbq6⟩ : ∃ b_ : Bool, b_ = (rdOf false l0 x7_1) := ⟨_, rfl⟩
      replace H : (if bq6 = true then (gudgeonref01_sub.j1 k1 l0 l1 x5_1 x6_1 x7_1 (0 + 1)) else (gudgeonref01_sub.j1 k1 l0 l1 x5_1 x6_1 x7_1 0)) = some r := by rw [← hbq6] at H; exact H
      have Nbq6 := Aside0.mk hbq6
      clear hbq6
      (try rw [← Nbq6.out])
      by_cases c7 : bq6 = true
      ·subst c7
       rw [if_pos rfl] at H
       have H' := Aside0.mk H
       clear H
       go_wp2
       go_meet
       case rel => exact ⟨_, (0 + 1), (by first | rfl | (simp; done)), H', ⟨by have := HK1.out; first | omega | exact Nat.le_refl _⟩, ⟨HO_5.out⟩, ⟨HB.out⟩⟩
      ·replace c7 := Bool.eq_false_iff.mpr c7
       subst c7
       rw [if_neg (show ¬ (false = true) by decide)] at H
       have H' := Aside0.mk H
       clear H
       go_wp2
       go_meet
       case rel => exact ⟨_, (0), (by first | rfl | (simp; done)), H', ⟨by have := HK1.out; first | omega | exact Nat.le_refl _⟩, ⟨HO_5.out⟩, ⟨HB.out⟩⟩
     case rest =>
      clear HC5
      try clear c1
      try clear p2
      try clear c3
      try clear c3b0
      try clear c4
      try clear c4b0
      try clear p6
      try clear q6
      try clear hx6
      try clear c7
      try clear hx697_0
      try clear p2
      try clear p697
      try clear q697
      obtain ⟨kq, x8_4, rfl, HA, HJ4, HO_5, HB⟩ := hcut
      cases kq with
      | zero => exact absurd HA.out (by simp [gudgeonref01_sub.j1])
      | succ kj4 =>
       have H := HA.out
       clear HA
       simp only [gudgeonref01_sub.j1] at H
       obtain ⟨t698, A80, H⟩ := Option.bind_eq_some_iff.mp H
       try dsimp only at H
       have A8 := Aside0.mk A80
       clear A80
       by_cases c9 : t698 = true
       ·subst c9
        rw [if_pos rfl] at H
        by_cases c10 : x6_1 = true
        ·subst c10
         rw [if_pos rfl] at H
         by_cases c11 : (wrap64 ((wrap64 (x8_4 - 1)) - 1)) = 1
         ·rw [if_pos c11] at H
          have c11b0 : ((wrap64 ((wrap64 (x8_4 - 1)) - 1)) == 1) = true := beq_iff_eq.mpr c11
          have c11b1 : ((wrap64 ((wrap64 (x8_4 - 1)) - 1)) != 1) = false := bne_eq_false_iff_eq.mpr c11
          clear c11
          by_cases c12 : x5_1.length < 140737488355328
          ·rw [if_pos c12] at H
           have LMc12 := Aside0.mk c12
           clear c12
           obtain ⟨y699, hy699⟩ : ∃ y_ : List Bool, y_ = (x5_1 ++ [true]) := ⟨_, rfl⟩
           replace H : (gudgeonref01_sub.l0 kj4 l0 l1 y699 (decide ((wrap64 ((wrap64 (x8_4 - 1)) - 1)) < 0)) (wrap64 (x7_1 + 1))) = some r := by first | (rw [hy699]; with_reducible exact H) | (have H2_ := (Option.bind_some _ _).symm.trans H; rw [hy699]; with_reducible exact H2_) | (have H2_ := (Option.bind_some _ _).symm.trans H; with_reducible exact H2_) | with_reducible exact H | (rw [hy699]; exact H) | exact H
           have Ny699 := Aside0.mk hy699
           clear hy699
           have H' := Aside0.mk H
           clear H
           go_wp2_with (first | ((with_reducible refine gate_callee (f := 111) rfl ?_); refine goL (some 23) Try.func111 [.slice A1 l1.length c1, .int .i64 x7_1] ?_; (with_reducible refine (gudgeonref01_at.calls _ _ l1 x7_1 true _ ?side1 ?side2 A8.out).mono ?_); (case side1 => repeat (first | exact (Kd.C_below HR1.out HB.out) | (with_reducible refine Kd.C_alloc ?_ _) | (with_reducible refine Kd.C_drewN ?_ _) | (with_reducible refine Kd.C_drew ?_))); (case side2 => exact HC1.out); rintro e w' ⟨rfl, ⟨nd, rfl⟩⟩; refine ⟨_, rfl, ?_⟩) | ((with_reducible refine gate_builtin (b := .append) (xs := #[.tmp 29, .tmp 36]) rfl ?_); at_builtin; refine Kd.R_append Kd.bool (w0 := w) w.heap.size rfl (.tmp 29) (.tmp 36) 90 4 (.bool false) 1 rfl Try.underlying90 info4 rfl (by decide) (by omega) u5 x5_1 true [.bool true] (fun _ => True) (fun _ => False) rfl rfl ?aP (fun _ hk => hk.elim) ?aF ?aO ?aB ?aS ?aL ?_; (case aP => exact rfl); (case aB => exact (by repeat first | exact HB.out | refine bxSet ?_ (by assumption) | apply below_alloc | apply pw_below_drewN)); (case aF => exact (fun _ _ => trivial)); (case aO => exact (by (with_reducible repeat (first | apply Kd.R_alloc | apply Kd.R_drewN | apply Kd.R_drew)); exact HO_5.out)); (case aS => exact (below_size (by repeat first | exact HB.out | refine bxSet ?_ (by assumption) | apply below_alloc | apply pw_below_drewN))); (case aL => have := LMc12.out; omega); intro v700 w13 ho hb hg hat; rw [← Ny699.out] at ho; have n0_ := Aside0.mk (hb); have n1_ := Aside0.mk (ho); clear HB; clear HO_5; have HB := n0_; have HO701 := n1_; clear n0_ n1_; clear ho hb hg hat))
           go_roundg kj4
           case measure => have := HK1.out; have := HJ4.out; omega
           case rel => exact ⟨(y699), (decide ((wrap64 ((wrap64 (x8_4 - 1)) - 1)) < 0)), (wrap64 (x7_1 + 1)), (by first | rfl | (simp; done)), (by first | rfl | (simp; done)), H', ⟨by have := HK1.out; have := HJ4.out; omega⟩, ⟨HO701.out⟩, ⟨HB.out⟩⟩
          ·rw [if_neg c12] at H
           exact absurd H (by simp)
         ·rw [if_neg c11] at H
          have c11b0 : ((wrap64 ((wrap64 (x8_4 - 1)) - 1)) == 1) = false := beq_eq_false_iff_ne.mpr c11
          have c11b1 : ((wrap64 ((wrap64 (x8_4 - 1)) - 1)) != 1) = true := bne_iff_ne.mpr c11
          by_cases c14 : x5_1.length < 140737488355328
          ·rw [if_pos c14] at H
           have LMc14 := Aside0.mk c14
           clear c14
           obtain ⟨y702, hy702⟩ : ∃ y_ : List Bool, y_ = (x5_1 ++ [((wrap64 ((wrap64 (x8_4 - 1)) - 1)) == (-1))]) := ⟨_, rfl⟩
           replace H : (gudgeonref01_sub.l0 kj4 l0 l1 y702 (decide ((wrap64 ((wrap64 (x8_4 - 1)) - 1)) < 0)) (wrap64 (x7_1 + 1))) = some r := by first | (rw [hy702]; with_reducible exact H) | (have H2_ := (Option.bind_some _ _).symm.trans H; rw [hy702]; with_reducible exact H2_) | (have H2_ := (Option.bind_some _ _).symm.trans H; with_reducible exact H2_) | with_reducible exact H | (rw [hy702]; exact H) | exact H
           have Ny702 := Aside0.mk hy702
           clear hy702
           have H' := Aside0.mk H
           clear H
           go_wp2_with (first | ((with_reducible refine gate_callee (f := 111) rfl ?_); refine goL (some 23) Try.func111 [.slice A1 l1.length c1, .int .i64 x7_1] ?_; (with_reducible refine (gudgeonref01_at.calls _ _ l1 x7_1 true _ ?side1 ?side2 A8.out).mono ?_); (case side1 => repeat (first | exact (Kd.C_below HR1.out HB.out) | (with_reducible refine Kd.C_alloc ?_ _) | (with_reducible refine Kd.C_drewN ?_ _) | (with_reducible refine Kd.C_drew ?_))); (case side2 => exact HC1.out); rintro e w' ⟨rfl, ⟨nd, rfl⟩⟩; refine ⟨_, rfl, ?_⟩) | ((with_reducible refine gate_builtin (b := .append) (xs := #[.tmp 29, .tmp 36]) rfl ?_); at_builtin; refine Kd.R_append Kd.bool (w0 := w) w.heap.size rfl (.tmp 29) (.tmp 36) 90 4 (.bool false) 1 rfl Try.underlying90 info4 rfl (by decide) (by omega) u5 x5_1 ((wrap64 ((wrap64 (x8_4 - 1)) - 1)) == (-1)) [.bool ((wrap64 ((wrap64 (x8_4 - 1)) - 1)) == (-1))] (fun _ => True) (fun _ => False) rfl rfl ?aP (fun _ hk => hk.elim) ?aF ?aO ?aB ?aS ?aL ?_; (case aP => exact rfl); (case aB => exact (by repeat first | exact HB.out | refine bxSet ?_ (by assumption) | apply below_alloc | apply pw_below_drewN)); (case aF => exact (fun _ _ => trivial)); (case aO => exact (by (with_reducible repeat (first | apply Kd.R_alloc | apply Kd.R_drewN | apply Kd.R_drew)); exact HO_5.out)); (case aS => exact (below_size (by repeat first | exact HB.out | refine bxSet ?_ (by assumption) | apply below_alloc | apply pw_below_drewN))); (case aL => have := LMc14.out; omega); intro v703 w15 ho hb hg hat; rw [← Ny702.out] at ho; have n0_ := Aside0.mk (hb); have n1_ := Aside0.mk (ho); clear HB; clear HO_5; have HB := n0_; have HO704 := n1_; clear n0_ n1_; clear ho hb hg hat))
           go_roundg kj4
           case measure => have := HK1.out; have := HJ4.out; omega
           case rel => exact ⟨(y702), (decide ((wrap64 ((wrap64 (x8_4 - 1)) - 1)) < 0)), (wrap64 (x7_1 + 1)), (by first | rfl | (simp; done)), (by first | rfl | (simp; done)), H', ⟨by have := HK1.out; have := HJ4.out; omega⟩, ⟨HO704.out⟩, ⟨HB.out⟩⟩
          ·rw [if_neg c14] at H
           exact absurd H (by simp)
        ·replace c10 := Bool.eq_false_iff.mpr c10
         subst c10
         rw [if_neg (show ¬ (false = true) by decide)] at H
         by_cases c16 : (wrap64 (x8_4 - 1)) = 1
         ·rw [if_pos c16] at H
          have c16b0 : ((wrap64 (x8_4 - 1)) == 1) = true := beq_iff_eq.mpr c16
          have c16b1 : ((wrap64 (x8_4 - 1)) != 1) = false := bne_eq_false_iff_eq.mpr c16
          clear c16
          by_cases c17 : x5_1.length < 140737488355328
          ·rw [if_pos c17] at H
           have LMc17 := Aside0.mk c17
           clear c17
           obtain ⟨y705, hy705⟩ : ∃ y_ : List Bool, y_ = (x5_1 ++ [true]) := ⟨_, rfl⟩
           replace H : (gudgeonref01_sub.l0 kj4 l0 l1 y705 (decide ((wrap64 (x8_4 - 1)) < 0)) (wrap64 (x7_1 + 1))) = some r := by first | (rw [hy705]; with_reducible exact H) | (have H2_ := (Option.bind_some _ _).symm.trans H; rw [hy705]; with_reducible exact H2_) | (have H2_ := (Option.bind_some _ _).symm.trans H; with_reducible exact H2_) | with_reducible exact H | (rw [hy705]; exact H) | exact H
           have Ny705 := Aside0.mk hy705
           clear hy705
           have H' := Aside0.mk H
           clear H
           go_wp2_with (first | ((with_reducible refine gate_callee (f := 111) rfl ?_); refine goL (some 23) Try.func111 [.slice A1 l1.length c1, .int .i64 x7_1] ?_; (with_reducible refine (gudgeonref01_at.calls _ _ l1 x7_1 true _ ?side1 ?side2 A8.out).mono ?_); (case side1 => repeat (first | exact (Kd.C_below HR1.out HB.out) | (with_reducible refine Kd.C_alloc ?_ _) | (with_reducible refine Kd.C_drewN ?_ _) | (with_reducible refine Kd.C_drew ?_))); (case side2 => exact HC1.out); rintro e w' ⟨rfl, ⟨nd, rfl⟩⟩; refine ⟨_, rfl, ?_⟩) | ((with_reducible refine gate_builtin (b := .append) (xs := #[.tmp 29, .tmp 36]) rfl ?_); at_builtin; refine Kd.R_append Kd.bool (w0 := w) w.heap.size rfl (.tmp 29) (.tmp 36) 90 4 (.bool false) 1 rfl Try.underlying90 info4 rfl (by decide) (by omega) u5 x5_1 true [.bool true] (fun _ => True) (fun _ => False) rfl rfl ?aP (fun _ hk => hk.elim) ?aF ?aO ?aB ?aS ?aL ?_; (case aP => exact rfl); (case aB => exact (by repeat first | exact HB.out | refine bxSet ?_ (by assumption) | apply below_alloc | apply pw_below_drewN)); (case aF => exact (fun _ _ => trivial)); (case aO => exact (by (with_reducible repeat (first | apply Kd.R_alloc | apply Kd.R_drewN | apply Kd.R_drew)); exact HO_5.out)); (case aS => exact (below_size (by repeat first | exact HB.out | refine bxSet ?_ (by assumption) | apply below_alloc | apply pw_below_drewN))); (case aL => have := LMc17.out; omega); intro v706 w18 ho hb hg hat; rw [← Ny705.out] at ho; have n0_ := Aside0.mk (hb); have n1_ := Aside0.mk (ho); clear HB; clear HO_5; have HB := n0_; have HO707 := n1_; clear n0_ n1_; clear ho hb hg hat))
           go_roundg kj4
           case measure => have := HK1.out; have := HJ4.out; omega
           case rel => exact ⟨(y705), (decide ((wrap64 (x8_4 - 1)) < 0)), (wrap64 (x7_1 + 1)), (by first | rfl | (simp; done)), (by first | rfl | (simp; done)), H', ⟨by have := HK1.out; have := HJ4.out; omega⟩, ⟨HO707.out⟩, ⟨HB.out⟩⟩
          ·rw [if_neg c17] at H
           exact absurd H (by simp)
         ·rw [if_neg c16] at H
          have c16b0 : ((wrap64 (x8_4 - 1)) == 1) = false := beq_eq_false_iff_ne.mpr c16
          have c16b1 : ((wrap64 (x8_4 - 1)) != 1) = true := bne_iff_ne.mpr c16
          by_cases c19 : x5_1.length < 140737488355328
          ·rw [if_pos c19] at H
           have LMc19 := Aside0.mk c19
           clear c19
           obtain ⟨y708, hy708⟩ : ∃ y_ : List Bool, y_ = (x5_1 ++ [((wrap64 (x8_4 - 1)) == (-1))]) := ⟨_, rfl⟩
           replace H : (gudgeonref01_sub.l0 kj4 l0 l1 y708 (decide ((wrap64 (x8_4 - 1)) < 0)) (wrap64 (x7_1 + 1))) = some r := by first | (rw [hy708]; with_reducible exact H) | (have H2_ := (Option.bind_some _ _).symm.trans H; rw [hy708]; with_reducible exact H2_) | (have H2_ := (Option.bind_some _ _).symm.trans H; with_reducible exact H2_) | with_reducible exact H | (rw [hy708]; exact H) | exact H
           have Ny708 := Aside0.mk hy708
           clear hy708
           have H' := Aside0.mk H
           clear H
           go_wp2_with (first | ((with_reducible refine gate_callee (f := 111) rfl ?_); refine goL (some 23) Try.func111 [.slice A1 l1.length c1, .int .i64 x7_1] ?_; (with_reducible refine (gudgeonref01_at.calls _ _ l1 x7_1 true _ ?side1 ?side2 A8.out).mono ?_); (case side1 => repeat (first | exact (Kd.C_below HR1.out HB.out) | (with_reducible refine Kd.C_alloc ?_ _) | (with_reducible refine Kd.C_drewN ?_ _) | (with_reducible refine Kd.C_drew ?_))); (case side2 => exact HC1.out); rintro e w' ⟨rfl, ⟨nd, rfl⟩⟩; refine ⟨_, rfl, ?_⟩) | ((with_reducible refine gate_builtin (b := .append) (xs := #[.tmp 29, .tmp 36]) rfl ?_); at_builtin; refine Kd.R_append Kd.bool (w0 := w) w.heap.size rfl (.tmp 29) (.tmp 36) 90 4 (.bool false) 1 rfl Try.underlying90 info4 rfl (by decide) (by omega) u5 x5_1 ((wrap64 (x8_4 - 1)) == (-1)) [.bool ((wrap64 (x8_4 - 1)) == (-1))] (fun _ => True) (fun _ => False) rfl rfl ?aP (fun _ hk => hk.elim) ?aF ?aO ?aB ?aS ?aL ?_; (case aP => exact rfl); (case aB => exact (by repeat first | exact HB.out | refine bxSet ?_ (by assumption) | apply below_alloc | apply pw_below_drewN)); (case aF => exact (fun _ _ => trivial)); (case aO => exact (by (with_reducible repeat (first | apply Kd.R_alloc | apply Kd.R_drewN | apply Kd.R_drew)); exact HO_5.out)); (case aS => exact (below_size (by repeat first | exact HB.out | refine bxSet ?_ (by assumption) | apply below_alloc | apply pw_below_drewN))); (case aL => have := LMc19.out; omega); intro v709 w20 ho hb hg hat; rw [← Ny708.out] at ho; have n0_ := Aside0.mk (hb); have n1_ := Aside0.mk (ho); clear HB; clear HO_5; have HB := n0_; have HO710 := n1_; clear n0_ n1_; clear ho hb hg hat))
           go_roundg kj4
           case measure => have := HK1.out; have := HJ4.out; omega
           case rel => exact ⟨(y708), (decide ((wrap64 (x8_4 - 1)) < 0)), (wrap64 (x7_1 + 1)), (by first | rfl | (simp; done)), (by first | rfl | (simp; done)), H', ⟨by have := HK1.out; have := HJ4.out; omega⟩, ⟨HO710.out⟩, ⟨HB.out⟩⟩
          ·rw [if_neg c19] at H
           exact absurd H (by simp)
       ·replace c9 := Bool.eq_false_iff.mpr c9
        subst c9
        rw [if_neg (show ¬ (false = true) by decide)] at H
        by_cases c21 : x6_1 = true
        ·subst c21
         rw [if_pos rfl] at H
         by_cases c22 : (wrap64 (x8_4 - 1)) = 1
         ·rw [if_pos c22] at H
          have c22b0 : ((wrap64 (x8_4 - 1)) == 1) = true := beq_iff_eq.mpr c22
          have c22b1 : ((wrap64 (x8_4 - 1)) != 1) = false := bne_eq_false_iff_eq.mpr c22
          clear c22
          by_cases c23 : x5_1.length < 140737488355328
          ·rw [if_pos c23] at H
           have LMc23 := Aside0.mk c23
           clear c23
           obtain ⟨y711, hy711⟩ : ∃ y_ : List Bool, y_ = (x5_1 ++ [true]) := ⟨_, rfl⟩
           replace H : (gudgeonref01_sub.l0 kj4 l0 l1 y711 (decide ((wrap64 (x8_4 - 1)) < 0)) (wrap64 (x7_1 + 1))) = some r := by first | (rw [hy711]; with_reducible exact H) | (have H2_ := (Option.bind_some _ _).symm.trans H; rw [hy711]; with_reducible exact H2_) | (have H2_ := (Option.bind_some _ _).symm.trans H; with_reducible exact H2_) | with_reducible exact H | (rw [hy711]; exact H) | exact H
           have Ny711 := Aside0.mk hy711
           clear hy711
           have H' := Aside0.mk H
           clear H
           go_wp2_with (first | ((with_reducible refine gate_callee (f := 111) rfl ?_); refine goL (some 23) Try.func111 [.slice A1 l1.length c1, .int .i64 x7_1] ?_; (with_reducible refine (gudgeonref01_at.calls _ _ l1 x7_1 false _ ?side1 ?side2 A8.out).mono ?_); (case side1 => repeat (first | exact (Kd.C_below HR1.out HB.out) | (with_reducible refine Kd.C_alloc ?_ _) | (with_reducible refine Kd.C_drewN ?_ _) | (with_reducible refine Kd.C_drew ?_))); (case side2 => exact HC1.out); rintro e w' ⟨rfl, ⟨nd, rfl⟩⟩; refine ⟨_, rfl, ?_⟩) | ((with_reducible refine gate_builtin (b := .append) (xs := #[.tmp 29, .tmp 36]) rfl ?_); at_builtin; refine Kd.R_append Kd.bool (w0 := w) w.heap.size rfl (.tmp 29) (.tmp 36) 90 4 (.bool false) 1 rfl Try.underlying90 info4 rfl (by decide) (by omega) u5 x5_1 true [.bool true] (fun _ => True) (fun _ => False) rfl rfl ?aP (fun _ hk => hk.elim) ?aF ?aO ?aB ?aS ?aL ?_; (case aP => exact rfl); (case aB => exact (by repeat first | exact HB.out | refine bxSet ?_ (by assumption) | apply below_alloc | apply pw_below_drewN)); (case aF => exact (fun _ _ => trivial)); (case aO => exact (by (with_reducible repeat (first | apply Kd.R_alloc | apply Kd.R_drewN | apply Kd.R_drew)); exact HO_5.out)); (case aS => exact (below_size (by repeat first | exact HB.out | refine bxSet ?_ (by assumption) | apply below_alloc | apply pw_below_drewN))); (case aL => have := LMc23.out; omega); intro v712 w24 ho hb hg hat; rw [← Ny711.out] at ho; have n0_ := Aside0.mk (hb); have n1_ := Aside0.mk (ho); clear HB; clear HO_5; have HB := n0_; have HO713 := n1_; clear n0_ n1_; clear ho hb hg hat))
           go_roundg kj4
           case measure => have := HK1.out; have := HJ4.out; omega
           case rel => exact ⟨(y711), (decide ((wrap64 (x8_4 - 1)) < 0)), (wrap64 (x7_1 + 1)), (by first | rfl | (simp; done)), (by first | rfl | (simp; done)), H', ⟨by have := HK1.out; have := HJ4.out; omega⟩, ⟨HO713.out⟩, ⟨HB.out⟩⟩
          ·rw [if_neg c23] at H
           exact absurd H (by simp)
         ·rw [if_neg c22] at H
          have c22b0 : ((wrap64 (x8_4 - 1)) == 1) = false := beq_eq_false_iff_ne.mpr c22
          have c22b1 : ((wrap64 (x8_4 - 1)) != 1) = true := bne_iff_ne.mpr c22
          by_cases c25 : x5_1.length < 140737488355328
          ·rw [if_pos c25] at H
           have LMc25 := Aside0.mk c25
           clear c25
           obtain ⟨y714, hy714⟩ : ∃ y_ : List Bool, y_ = (x5_1 ++ [((wrap64 (x8_4 - 1)) == (-1))]) := ⟨_, rfl⟩
           replace H : (gudgeonref01_sub.l0 kj4 l0 l1 y714 (decide ((wrap64 (x8_4 - 1)) < 0)) (wrap64 (x7_1 + 1))) = some r := by first | (rw [hy714]; with_reducible exact H) | (have H2_ := (Option.bind_some _ _).symm.trans H; rw [hy714]; with_reducible exact H2_) | (have H2_ := (Option.bind_some _ _).symm.trans H; with_reducible exact H2_) | with_reducible exact H | (rw [hy714]; exact H) | exact H
           have Ny714 := Aside0.mk hy714
           clear hy714
           have H' := Aside0.mk H
           clear H
           go_wp2_with (first | ((with_reducible refine gate_callee (f := 111) rfl ?_); refine goL (some 23) Try.func111 [.slice A1 l1.length c1, .int .i64 x7_1] ?_; (with_reducible refine (gudgeonref01_at.calls _ _ l1 x7_1 false _ ?side1 ?side2 A8.out).mono ?_); (case side1 => repeat (first | exact (Kd.C_below HR1.out HB.out) | (with_reducible refine Kd.C_alloc ?_ _) | (with_reducible refine Kd.C_drewN ?_ _) | (with_reducible refine Kd.C_drew ?_))); (case side2 => exact HC1.out); rintro e w' ⟨rfl, ⟨nd, rfl⟩⟩; refine ⟨_, rfl, ?_⟩) | ((with_reducible refine gate_builtin (b := .append) (xs := #[.tmp 29, .tmp 36]) rfl ?_); at_builtin; refine Kd.R_append Kd.bool (w0 := w) w.heap.size rfl (.tmp 29) (.tmp 36) 90 4 (.bool false) 1 rfl Try.underlying90 info4 rfl (by decide) (by omega) u5 x5_1 ((wrap64 (x8_4 - 1)) == (-1)) [.bool ((wrap64 (x8_4 - 1)) == (-1))] (fun _ => True) (fun _ => False) rfl rfl ?aP (fun _ hk => hk.elim) ?aF ?aO ?aB ?aS ?aL ?_; (case aP => exact rfl); (case aB => exact (by repeat first | exact HB.out | refine bxSet ?_ (by assumption) | apply below_alloc | apply pw_below_drewN)); (case aF => exact (fun _ _ => trivial)); (case aO => exact (by (with_reducible repeat (first | apply Kd.R_alloc | apply Kd.R_drewN | apply Kd.R_drew)); exact HO_5.out)); (case aS => exact (below_size (by repeat first | exact HB.out | refine bxSet ?_ (by assumption) | apply below_alloc | apply pw_below_drewN))); (case aL => have := LMc25.out; omega); intro v715 w26 ho hb hg hat; rw [← Ny714.out] at ho; have n0_ := Aside0.mk (hb); have n1_ := Aside0.mk (ho); clear HB; clear HO_5; have HB := n0_; have HO716 := n1_; clear n0_ n1_; clear ho hb hg hat))
           go_roundg kj4
           case measure => have := HK1.out; have := HJ4.out; omega
           case rel => exact ⟨(y714), (decide ((wrap64 (x8_4 - 1)) < 0)), (wrap64 (x7_1 + 1)), (by first | rfl | (simp; done)), (by first | rfl | (simp; done)), H', ⟨by have := HK1.out; have := HJ4.out; omega⟩, ⟨HO716.out⟩, ⟨HB.out⟩⟩
          ·rw [if_neg c25] at H
           exact absurd H (by simp)
        ·replace c21 := Bool.eq_false_iff.mpr c21
         subst c21
         rw [if_neg (show ¬ (false = true) by decide)] at H
         by_cases c27 : x8_4 = 1
         ·rw [if_pos c27] at H
          have c27b0 : (x8_4 == 1) = true := beq_iff_eq.mpr c27
          have c27b1 : (x8_4 != 1) = false := bne_eq_false_iff_eq.mpr c27
          clear c27
          by_cases c28 : x5_1.length < 140737488355328
          ·rw [if_pos c28] at H
           have LMc28 := Aside0.mk c28
           clear c28
           obtain ⟨y717, hy717⟩ : ∃ y_ : List Bool, y_ = (x5_1 ++ [true]) := ⟨_, rfl⟩
           replace H : (gudgeonref01_sub.l0 kj4 l0 l1 y717 (decide (x8_4 < 0)) (wrap64 (x7_1 + 1))) = some r := by first | (rw [hy717]; with_reducible exact H) | (have H2_ := (Option.bind_some _ _).symm.trans H; rw [hy717]; with_reducible exact H2_) | (have H2_ := (Option.bind_some _ _).symm.trans H; with_reducible exact H2_) | with_reducible exact H | (rw [hy717]; exact H) | exact H
           have Ny717 := Aside0.mk hy717
           clear hy717
           have H' := Aside0.mk H
           clear H
           go_wp2_with (first | ((with_reducible refine gate_callee (f := 111) rfl ?_); refine goL (some 23) Try.func111 [.slice A1 l1.length c1, .int .i64 x7_1] ?_; (with_reducible refine (gudgeonref01_at.calls _ _ l1 x7_1 false _ ?side1 ?side2 A8.out).mono ?_); (case side1 => repeat (first | exact (Kd.C_below HR1.out HB.out) | (with_reducible refine Kd.C_alloc ?_ _) | (with_reducible refine Kd.C_drewN ?_ _) | (with_reducible refine Kd.C_drew ?_))); (case side2 => exact HC1.out); rintro e w' ⟨rfl, ⟨nd, rfl⟩⟩; refine ⟨_, rfl, ?_⟩) | ((with_reducible refine gate_builtin (b := .append) (xs := #[.tmp 29, .tmp 36]) rfl ?_); at_builtin; refine Kd.R_append Kd.bool (w0 := w) w.heap.size rfl (.tmp 29) (.tmp 36) 90 4 (.bool false) 1 rfl Try.underlying90 info4 rfl (by decide) (by omega) u5 x5_1 true [.bool true] (fun _ => True) (fun _ => False) rfl rfl ?aP (fun _ hk => hk.elim) ?aF ?aO ?aB ?aS ?aL ?_; (case aP => exact rfl); (case aB => exact (by repeat first | exact HB.out | refine bxSet ?_ (by assumption) | apply below_alloc | apply pw_below_drewN)); (case aF => exact (fun _ _ => trivial)); (case aO => exact (by (with_reducible repeat (first | apply Kd.R_alloc | apply Kd.R_drewN | apply Kd.R_drew)); exact HO_5.out)); (case aS => exact (below_size (by repeat first | exact HB.out | refine bxSet ?_ (by assumption) | apply below_alloc | apply pw_below_drewN))); (case aL => have := LMc28.out; omega); intro v718 w29 ho hb hg hat; rw [← Ny717.out] at ho; have n0_ := Aside0.mk (hb); have n1_ := Aside0.mk (ho); clear HB; clear HO_5; have HB := n0_; have HO719 := n1_; clear n0_ n1_; clear ho hb hg hat))
           go_roundg kj4
           case measure => have := HK1.out; have := HJ4.out; omega
           case rel => exact ⟨(y717), (decide (x8_4 < 0)), (wrap64 (x7_1 + 1)), (by first | rfl | (simp; done)), (by first | rfl | (simp; done)), H', ⟨by have := HK1.out; have := HJ4.out; omega⟩, ⟨HO719.out⟩, ⟨HB.out⟩⟩
          ·rw [if_neg c28] at H
           exact absurd H (by simp)
         ·rw [if_neg c27] at H
          have c27b0 : (x8_4 == 1) = false := beq_eq_false_iff_ne.mpr c27
          have c27b1 : (x8_4 != 1) = true := bne_iff_ne.mpr c27
          by_cases c30 : x5_1.length < 140737488355328
          ·rw [if_pos c30] at H
           have LMc30 := Aside0.mk c30
           clear c30
           obtain ⟨y720, hy720⟩ : ∃ y_ : List Bool, y_ = (x5_1 ++ [(x8_4 == (-1))]) := ⟨_, rfl⟩
           replace H : (gudgeonref01_sub.l0 kj4 l0 l1 y720 (decide (x8_4 < 0)) (wrap64 (x7_1 + 1))) = some r := by first | (rw [hy720]; with_reducible exact H) | (have H2_ := (Option.bind_some _ _).symm.trans H; rw [hy720]; with_reducible exact H2_) | (have H2_ := (Option.bind_some _ _).symm.trans H; with_reducible exact H2_) | with_reducible exact H | (rw [hy720]; exact H) | exact H
           have Ny720 := Aside0.mk hy720
           clear hy720
           have H' := Aside0.mk H
           clear H
           go_wp2_with (first | ((with_reducible refine gate_callee (f := 111) rfl ?_); refine goL (some 23) Try.func111 [.slice A1 l1.length c1, .int .i64 x7_1] ?_; (with_reducible refine (gudgeonref01_at.calls _ _ l1 x7_1 false _ ?side1 ?side2 A8.out).mono ?_); (case side1 => repeat (first | exact (Kd.C_below HR1.out HB.out) | (with_reducible refine Kd.C_alloc ?_ _) | (with_reducible refine Kd.C_drewN ?_ _) | (with_reducible refine Kd.C_drew ?_))); (case side2 => exact HC1.out); rintro e w' ⟨rfl, ⟨nd, rfl⟩⟩; refine ⟨_, rfl, ?_⟩) | ((with_reducible refine gate_builtin (b := .append) (xs := #[.tmp 29, .tmp 36]) rfl ?_); at_builtin; refine Kd.R_append Kd.bool (w0 := w) w.heap.size rfl (.tmp 29) (.tmp 36) 90 4 (.bool false) 1 rfl Try.underlying90 info4 rfl (by decide) (by omega) u5 x5_1 (x8_4 == (-1)) [.bool (x8_4 == (-1))] (fun _ => True) (fun _ => False) rfl rfl ?aP (fun _ hk => hk.elim) ?aF ?aO ?aB ?aS ?aL ?_; (case aP => exact rfl); (case aB => exact (by repeat first | exact HB.out | refine bxSet ?_ (by assumption) | apply below_alloc | apply pw_below_drewN)); (case aF => exact (fun _ _ => trivial)); (case aO => exact (by (with_reducible repeat (first | apply Kd.R_alloc | apply Kd.R_drewN | apply Kd.R_drew)); exact HO_5.out)); (case aS => exact (below_size (by repeat first | exact HB.out | refine bxSet ?_ (by assumption) | apply below_alloc | apply pw_below_drewN))); (case aL => have := LMc30.out; omega); intro v721 w31 ho hb hg hat; rw [← Ny720.out] at ho; have n0_ := Aside0.mk (hb); have n1_ := Aside0.mk (ho); clear HB; clear HO_5; have HB := n0_; have HO722 := n1_; clear n0_ n1_; clear ho hb hg hat))
           go_roundg kj4
           case measure => have := HK1.out; have := HJ4.out; omega
           case rel => exact ⟨(y720), (decide (x8_4 < 0)), (wrap64 (x7_1 + 1)), (by first | rfl | (simp; done)), (by first | rfl | (simp; done)), H', ⟨by have := HK1.out; have := HJ4.out; omega⟩, ⟨HO722.out⟩, ⟨HB.out⟩⟩
          ·rw [if_neg c30] at H
           exact absurd H (by simp)
    ·rw [if_neg c4] at H
     exact absurd H (by simp)
   ·rw [if_neg c3] at H
    have c3b0 : decide (x7_1 < (l0.length : Int)) = false := decide_eq_false c3
    clear c3
    obtain ⟨t694, A320, H⟩ := Option.bind_eq_some_iff.mp H
    try dsimp only at H
    have A32 := Aside0.mk A320
    clear A320
    obtain rfl := Option.some.inj H
    obtain ⟨Ao33, co33, eo33⟩ := Kd.R_slice HO_5.out
    subst eo33
    go_wp2_with (first | ((with_reducible refine gate_callee (f := 108) rfl ?_); refine goL (some 41) Try.func108 [.slice Ao33 x5_1.length co33] ?_; (with_reducible refine (gudgeonref01_trim.calls k1 _ _ x5_1 t694 _ ?side1 ?side2 A32.out).mono ?_); (case side1 => exact (Kd.R_reads' HO_5.out).2.2); (case side2 => exact (Kd.R_reads' HO_5.out).2.1); rintro e w34 ⟨v695, rfl, ho0, hb⟩; refine ⟨_, rfl, ?_⟩; have HO696 := Aside0.mk (Kd.R_lower (Kd.R_new' ho0 (Kd.R_lt HO_5.out)) (below_size HB.out)); replace HB := Aside0.mk (below_step HB.out hb)))
    go_ret
    exact ⟨_, rfl, Kd.R_mono HO696.out (fun _ hk => trivial), HB.out⟩

/-! ### gudgeonref01_Sub: function 78 -/
def gudgeonref01_Sub.f (k : Nat) (l0 : List Int) (l1 : List Int) : Option (List Int × Int) := (gudgeonref01_Bits.f k l0).bind fun t723 => ((gudgeonref01_Bits.f k l1).bind fun t726 => ((gudgeonref01_cmp.f k t723 t726).bind fun t729 => (if t729 < 0 then (some (([] : List Int), 6)) else ((gudgeonref01_sub.f k t723 t726).bind fun t730 => ((gudgeonref01_Limbs.f k t730).bind fun t733 => (some (t733, 0)))))))
set_option maxHeartbeats 8000000 in
set_option maxRecDepth 100000 in
theorem gudgeonref01_Sub.calls (k : Nat) (A0 : Option Addr) (c0 : Nat) (l0 : List Int) (A1 : Option Addr) (c1 : Nat) (l1 : List Int) (r1 : List Int) (r2 : Int) (w : World) (hr0 : Kd.C (Kd.int .u32) w A0 l0.length l0) (hc0 : l0.length ≤ c0) (hr1 : Kd.C (Kd.int .u32) w A1 l1.length l1) (hc1 : l1.length ≤ c1) (h : gudgeonref01_Sub.f k l0 l1 = some (r1, r2)) :
  Calls Try.prog 78 #[.slice A0 l0.length c0, .slice A1 l1.length c1] w fun e w' => ∃ v0_ : Value, e = .returned (.tuple #[v0_, .int .i64 r2]) ∧ Kd.R (Kd.int .u32) 81 w' w.heap.size (fun _ => True) v0_ r1 ∧ Below w.heap.size w w' := by
 have HR0 := Aside0.mk hr0
 have HC0 := Aside0.mk hc0
 clear hr0 hc0
 have HR1 := Aside0.mk hr1
 have HC1 := Aside0.mk hc1
 clear hr1 hc1
 have HB := Aside0.mk (Below.refl w.heap.size w)
 have H : ((gudgeonref01_Bits.f k l0).bind fun t723 => ((gudgeonref01_Bits.f k l1).bind fun t726 => ((gudgeonref01_cmp.f k t723 t726).bind fun t729 => (if t729 < 0 then (some (([] : List Int), 6)) else ((gudgeonref01_sub.f k t723 t726).bind fun t730 => ((gudgeonref01_Limbs.f k t730).bind fun t733 => (some (t733, 0)))))))) = some (r1, r2) := h
 clear h
 obtain ⟨t723, A30, H⟩ := Option.bind_eq_some_iff.mp H
 try dsimp only at H
 have A3 := Aside0.mk A30
 clear A30
 obtain ⟨t726, A40, H⟩ := Option.bind_eq_some_iff.mp H
 try dsimp only at H
 have A4 := Aside0.mk A40
 clear A40
 obtain ⟨t729, A50, H⟩ := Option.bind_eq_some_iff.mp H
 try dsimp only at H
 have A5 := Aside0.mk A50
 clear A50
 by_cases c6 : t729 < 0
 ·rw [if_pos c6] at H
  have c6b0 : decide (t729 < 0) = true := decide_eq_true c6
  clear c6
  simp only [Option.some.injEq, Prod.mk.injEq] at H
  obtain ⟨rfl, rfl⟩ := H
  go_enter Try.func78, Try.ntmps78
  go_wp2_with (first | ((with_reducible refine gate_callee (f := 86) rfl ?_); refine goL (some 9) Try.func86 [.slice A0 l0.length c0] ?_; (with_reducible refine (gudgeonref01_Bits.calls k _ _ l0 t723 _ ?side1 ?side2 A3.out).mono ?_); (case side1 => exact HR0.out); (case side2 => exact HC0.out); rintro e w7 ⟨v724, rfl, ho0, hb⟩; refine ⟨_, rfl, ?_⟩; have HO725 := Aside0.mk (Kd.R_lower ho0 (below_size HB.out)); replace HB := Aside0.mk (below_step HB.out hb)) | ((with_reducible refine gate_callee (f := 86) rfl ?_); refine goL (some 11) Try.func86 [.slice A1 l1.length c1] ?_; (with_reducible refine (gudgeonref01_Bits.calls k _ _ l1 t726 _ ?side1 ?side2 A4.out).mono ?_); (case side1 => exact (Kd.C_below HR1.out HB.out)); (case side2 => exact HC1.out); rintro e w8 ⟨v727, rfl, ho0, hb⟩; refine ⟨_, rfl, ?_⟩; have HO728 := Aside0.mk (Kd.R_lower (Kd.R_new' ho0 (Kd.R_lt HO725.out)) (below_size HB.out)); replace HO725 := Aside0.mk (Kd.R_elder' HO725.out (Kd.R_base ho0) hb); replace HB := Aside0.mk (below_step HB.out hb); obtain ⟨Ao9, co9, eo9⟩ := Kd.R_slice HO725.out; subst eo9; obtain ⟨Ao10, co10, eo10⟩ := Kd.R_slice HO728.out; subst eo10) | ((with_reducible refine gate_callee (f := 95) rfl ?_); refine goL (some 14) Try.func95 [.slice Ao9 t723.length co9, .slice Ao10 t726.length co10] ?_; (with_reducible refine (gudgeonref01_cmp.calls k _ _ t723 _ _ t726 t729 _ ?side1 ?side2 ?side3 ?side4 A5.out).mono ?_); (case side1 => exact (Kd.R_reads' HO725.out).2.2); (case side2 => exact (Kd.R_reads' HO725.out).2.1); (case side3 => exact (Kd.R_reads' HO728.out).2.2); (case side4 => exact (Kd.R_reads' HO728.out).2.1); rintro e w' ⟨rfl, ⟨nd, rfl⟩⟩; refine ⟨_, rfl, ?_⟩))
  go_ret2
  exact ⟨_, by first | rfl | (simp [errW_none, errW_some] <;> rfl), by first | exact Kd.R_nil _ _ _ _ _ | exact Kd.N_nil _ _ _ _ _ | exact Kd.V_nil _ _ _ _ _ | exact Kd.Q_nil _ _ _ _ _ | exact Kd.S_nil _ _ _ _ _, by repeat first | exact HB.out | refine bxSet ?_ (by assumption) | apply below_alloc | apply pw_below_drewN⟩
 ·rw [if_neg c6] at H
  have c6b0 : decide (t729 < 0) = false := decide_eq_false c6
  clear c6
  obtain ⟨t730, A110, H⟩ := Option.bind_eq_some_iff.mp H
  try dsimp only at H
  have A11 := Aside0.mk A110
  clear A110
  obtain ⟨t733, A120, H⟩ := Option.bind_eq_some_iff.mp H
  try dsimp only at H
  have A12 := Aside0.mk A120
  clear A120
  simp only [Option.some.injEq, Prod.mk.injEq] at H
  obtain ⟨rfl, rfl⟩ := H
  go_enter Try.func78, Try.ntmps78
  go_wp2_with (first | ((with_reducible refine gate_callee (f := 86) rfl ?_); refine goL (some 9) Try.func86 [.slice A0 l0.length c0] ?_; (with_reducible refine (gudgeonref01_Bits.calls k _ _ l0 t723 _ ?side1 ?side2 A3.out).mono ?_); (case side1 => repeat (first | exact HR0.out | (with_reducible refine Kd.C_alloc ?_ _) | (with_reducible refine Kd.C_drewN ?_ _) | (with_reducible refine Kd.C_drew ?_))); (case side2 => exact HC0.out); rintro e w13 ⟨v724, rfl, ho0, hb⟩; refine ⟨_, rfl, ?_⟩; have HO725 := Aside0.mk (Kd.R_lower ho0 (below_size (by repeat first | exact HB.out | refine bxSet ?_ (by assumption) | apply below_alloc | apply pw_below_drewN))); replace HB := Aside0.mk (below_step (by repeat first | exact HB.out | refine bxSet ?_ (by assumption) | apply below_alloc | apply pw_below_drewN) hb)) | ((with_reducible refine gate_callee (f := 86) rfl ?_); refine goL (some 11) Try.func86 [.slice A1 l1.length c1] ?_; (with_reducible refine (gudgeonref01_Bits.calls k _ _ l1 t726 _ ?side1 ?side2 A4.out).mono ?_); (case side1 => repeat (first | exact (Kd.C_below HR1.out HB.out) | (with_reducible refine Kd.C_alloc ?_ _) | (with_reducible refine Kd.C_drewN ?_ _) | (with_reducible refine Kd.C_drew ?_))); (case side2 => exact HC1.out); rintro e w14 ⟨v727, rfl, ho0, hb⟩; refine ⟨_, rfl, ?_⟩; have HO728 := Aside0.mk (Kd.R_lower (Kd.R_new' ho0 (Kd.R_lt (by (with_reducible repeat (first | apply Kd.R_alloc | apply Kd.R_drewN | apply Kd.R_drew)); exact HO725.out))) (below_size (by repeat first | exact HB.out | refine bxSet ?_ (by assumption) | apply below_alloc | apply pw_below_drewN))); replace HO725 := Aside0.mk (Kd.R_elder' (by (with_reducible repeat (first | apply Kd.R_alloc | apply Kd.R_drewN | apply Kd.R_drew)); exact HO725.out) (Kd.R_base ho0) hb); replace HB := Aside0.mk (below_step (by repeat first | exact HB.out | refine bxSet ?_ (by assumption) | apply below_alloc | apply pw_below_drewN) hb); obtain ⟨Ao15, co15, eo15⟩ := Kd.R_slice HO725.out; subst eo15; obtain ⟨Ao16, co16, eo16⟩ := Kd.R_slice HO728.out; subst eo16) | ((with_reducible refine gate_callee (f := 95) rfl ?_); refine goL (some 14) Try.func95 [.slice Ao15 t723.length co15, .slice Ao16 t726.length co16] ?_; (with_reducible refine (gudgeonref01_cmp.calls k _ _ t723 _ _ t726 t729 _ ?side1 ?side2 ?side3 ?side4 A5.out).mono ?_); (case side1 => repeat (first | exact (Kd.R_reads' HO725.out).2.2 | (with_reducible refine Kd.C_alloc ?_ _) | (with_reducible refine Kd.C_drewN ?_ _) | (with_reducible refine Kd.C_drew ?_))); (case side2 => exact (Kd.R_reads' HO725.out).2.1); (case side3 => repeat (first | exact (Kd.R_reads' HO728.out).2.2 | (with_reducible refine Kd.C_alloc ?_ _) | (with_reducible refine Kd.C_drewN ?_ _) | (with_reducible refine Kd.C_drew ?_))); (case side4 => exact (Kd.R_reads' HO728.out).2.1); rintro e w' ⟨rfl, ⟨nd, rfl⟩⟩; refine ⟨_, rfl, ?_⟩) | ((with_reducible refine gate_callee (f := 96) rfl ?_); refine goL (some 18) Try.func96 [.slice Ao15 t723.length co15, .slice Ao16 t726.length co16] ?_; (with_reducible refine (gudgeonref01_sub.calls k _ _ t723 _ _ t726 t730 _ ?side1 ?side2 ?side3 ?side4 A11.out).mono ?_); (case side1 => repeat (first | exact (Kd.R_reads' HO725.out).2.2 | (with_reducible refine Kd.C_alloc ?_ _) | (with_reducible refine Kd.C_drewN ?_ _) | (with_reducible refine Kd.C_drew ?_))); (case side2 => exact (Kd.R_reads' HO725.out).2.1); (case side3 => repeat (first | exact (Kd.R_reads' HO728.out).2.2 | (with_reducible refine Kd.C_alloc ?_ _) | (with_reducible refine Kd.C_drewN ?_ _) | (with_reducible refine Kd.C_drew ?_))); (case side4 => exact (Kd.R_reads' HO728.out).2.1); rintro e w17 ⟨v731, rfl, ho0, hb⟩; refine ⟨_, rfl, ?_⟩; have HO732 := Aside0.mk (Kd.R_lower (Kd.R_new' (Kd.R_new' ho0 (Kd.R_lt (by (with_reducible repeat (first | apply Kd.R_alloc | apply Kd.R_drewN | apply Kd.R_drew)); exact HO725.out))) (Kd.R_lt (by (with_reducible repeat (first | apply Kd.R_alloc | apply Kd.R_drewN | apply Kd.R_drew)); exact HO728.out))) (below_size (by repeat first | exact HB.out | refine bxSet ?_ (by assumption) | apply below_alloc | apply pw_below_drewN))); replace HB := Aside0.mk (below_step (by repeat first | exact HB.out | refine bxSet ?_ (by assumption) | apply below_alloc | apply pw_below_drewN) hb); obtain ⟨Ao18, co18, eo18⟩ := Kd.R_slice HO732.out; subst eo18) | ((with_reducible refine gate_callee (f := 88) rfl ?_); refine goL (some 19) Try.func88 [.slice Ao18 t730.length co18] ?_; (with_reducible refine (gudgeonref01_Limbs.calls k _ _ t730 t733 _ ?side1 ?side2 A12.out).mono ?_); (case side1 => repeat (first | exact (Kd.R_reads' HO732.out).2.2 | (with_reducible refine Kd.C_alloc ?_ _) | (with_reducible refine Kd.C_drewN ?_ _) | (with_reducible refine Kd.C_drew ?_))); (case side2 => exact (Kd.R_reads' HO732.out).2.1); rintro e w19 ⟨v734, rfl, ho0, hb⟩; refine ⟨_, rfl, ?_⟩; have HO735 := Aside0.mk (Kd.R_lower ho0 (below_size (by repeat first | exact HB.out | refine bxSet ?_ (by assumption) | apply below_alloc | apply pw_below_drewN))); replace HB := Aside0.mk (below_step (by repeat first | exact HB.out | refine bxSet ?_ (by assumption) | apply below_alloc | apply pw_below_drewN) hb)))
  go_ret2
  exact ⟨_, rfl, HO735.out, HB.out⟩

/-! ### gudgeonref02_Add: function 55 -/
def gudgeonref02_Add.f (k : Nat) (a0_0 : Bool) (l0_1 : List Int) (a1_0 : Bool) (l1_1 : List Int) : Option (Bool × List Int) := if (a0_0 == a1_0) = true then ((gudgeonref01_Add.f k l0_1 l1_1).bind fun t739 => ((gudgeonref02_Norm.f k a0_0 t739).bind fun bt742 => (some (bt742.1, bt742.2)))) else ((gudgeonref01_Sub.f k l0_1 l1_1).bind fun bt746 => (if bt746.2 = 0 then ((gudgeonref02_Norm.f k a0_0 bt746.1).bind fun bt750 => (some (bt750.1, bt750.2))) else ((gudgeonref01_Sub.f k l1_1 l0_1).bind fun bt754 => ((gudgeonref02_Norm.f k a1_0 bt754.1).bind fun bt758 => (some (bt758.1, bt758.2))))))
def gudgeonref02_Add.T2 : Bool × List (List Nat × List Nat) := (true, [([], []), ([0], [0]), ([], []), ([2], [2]), ([], []), ([4], [4]), ([3, 5], [3, 5]), ([1, 6], [1, 6]), ([7, 6], [7]), ([8, 8, 0, 1, 2, 3, 4, 5, 6, 7, 8], [8])])
def gudgeonref02_Add.B2 : List Nat := [0, 1, 0, 4, 0, 16, 60, 127, 255, 511]
theorem gudgeonref02_Add.tab2 : rtab .any (opsOf Try.f55 2) = gudgeonref02_Add.T2 := by kernel_rfl
theorem gudgeonref02_Add.bits2 : waitsOk gudgeonref02_Add.T2.2 gudgeonref02_Add.B2 = true := by kernel_rfl
set_option maxHeartbeats 8000000 in
set_option maxRecDepth 100000 in
theorem gudgeonref02_Add.calls (k : Nat) (a0_0 : Bool) (A0_1 : Option Addr) (c0_1 : Nat) (l0_1 : List Int) (a1_0 : Bool) (A1_1 : Option Addr) (c1_1 : Nat) (l1_1 : List Int) (r1 : Bool) (r2 : List Int) (w : World) (hr0_1 : Kd.C (Kd.int .u32) w A0_1 l0_1.length l0_1) (hc0_1 : l0_1.length ≤ c0_1) (hr1_1 : Kd.C (Kd.int .u32) w A1_1 l1_1.length l1_1) (hc1_1 : l1_1.length ≤ c1_1) (h : gudgeonref02_Add.f k a0_0 l0_1 a1_0 l1_1 = some (r1, r2)) :
  Calls Try.prog 55 #[.agg #[.bool a0_0, .slice A0_1 l0_1.length c0_1], .agg #[.bool a1_0, .slice A1_1 l1_1.length c1_1]] w fun e w' => ∃ v1_ : Value, e = .returned (.agg #[.bool r1, v1_]) ∧ Kd.R (Kd.int .u32) 81 w' w.heap.size (fun _ => True) v1_ r2 ∧ Below w.heap.size w w' := by
 have hu24 := Try.underlying24
 have HR0_1 := Aside0.mk hr0_1
 have HC0_1 := Aside0.mk hc0_1
 clear hr0_1 hc0_1
 have HR1_1 := Aside0.mk hr1_1
 have HC1_1 := Aside0.mk hc1_1
 clear hr1_1 hc1_1
 have HB := Aside0.mk (Below.refl w.heap.size w)
 have H : (if (a0_0 == a1_0) = true then ((gudgeonref01_Add.f k l0_1 l1_1).bind fun t739 => ((gudgeonref02_Norm.f k a0_0 t739).bind fun bt742 => (some (bt742.1, bt742.2)))) else ((gudgeonref01_Sub.f k l0_1 l1_1).bind fun bt746 => (if bt746.2 = 0 then ((gudgeonref02_Norm.f k a0_0 bt746.1).bind fun bt750 => (some (bt750.1, bt750.2))) else ((gudgeonref01_Sub.f k l1_1 l0_1).bind fun bt754 => ((gudgeonref02_Norm.f k a1_0 bt754.1).bind fun bt758 => (some (bt758.1, bt758.2))))))) = some (r1, r2) := h
 clear h
 by_cases c3 : (a0_0 == a1_0) = true
 ·rw [if_pos c3] at H
  have c3b0 : (a0_0 == a1_0) = true := c3
  (try (have c3b1 : decide (a0_0 = a1_0) = true := by simpa using c3))
  (try (have c3b2 : (a0_0 == a1_0) = true := by simpa using c3))
  clear c3
  obtain ⟨t739, A40, H⟩ := Option.bind_eq_some_iff.mp H
  try dsimp only at H
  have A4 := Aside0.mk A40
  clear A40
  obtain ⟨⟨t742, t743⟩, A50, H⟩ := Option.bind_eq_some_iff.mp H
  try dsimp only at H
  have A5 := Aside0.mk A50
  clear A50
  simp only [Option.some.injEq, Prod.mk.injEq] at H
  obtain ⟨rfl, rfl⟩ := H
  go_enter Try.func55, Try.ntmps55
  try go_wp2_with (first | ((with_reducible refine gate_dst (N := 2) rfl ?_); refine box_event ?hg (N := 2) ?hd (cs := #[.bool a0_0, .slice A0_1 l0_1.length c0_1]) (t := 24) ?hr ?_; (case hd => rfl); (case hg => rfl); (case hr => first | (go_simp; done) | (go_simp; rfl)); intro gb736 hg w6 hbox hb; have BK736 := Aside0.mk (hbox); have GW736 := Aside0.mk (bxLe HB.out hg); have GE736 := GW736; replace HB := Aside0.mk (below_step HB.out hb); clear hb hbox hg) | ((with_reducible refine gate_dst (N := 3) rfl ?_); refine box_event ?hg (N := 3) ?hd (cs := #[.bool a1_0, .slice A1_1 l1_1.length c1_1]) (t := 24) ?hr ?_; (case hd => rfl); (case hg => rfl); (case hr => first | (go_simp; done) | (go_simp; rfl)); intro gb737 hg w7 hbox hb; have BK737 := Aside0.mk (hbox); have GW737 := Aside0.mk (bxLe HB.out hg); have GE737 := GW737; replace HB := Aside0.mk (below_step HB.out hb); have NB736_737 := Aside0.mk (neL BK736.out hg); have NB737_736 := Aside0.mk (neR BK736.out hg); replace BK736 := Aside0.mk (blk_below BK736.out hb); clear hb hbox hg) | ((with_reducible refine gate_dst (N := 4) rfl ?_); refine box_event ?hg (N := 4) ?hd (cs := #[.bool false, .slice none 0 0]) (t := 24) ?hr ?_; (case hd => rfl); (case hg => rfl); (case hr => first | (go_simp; done) | (go_simp; rfl)); intro gb738 hg w8 hbox hb; have BK738 := Aside0.mk (hbox); have GW738 := Aside0.mk (bxLe HB.out hg); have GE738 := GW738; replace HB := Aside0.mk (below_step HB.out hb); have NB736_738 := Aside0.mk (neL BK736.out hg); have NB738_736 := Aside0.mk (neR BK736.out hg); replace BK736 := Aside0.mk (blk_below BK736.out hb); have NB737_738 := Aside0.mk (neL BK737.out hg); have NB738_737 := Aside0.mk (neR BK737.out hg); replace BK737 := Aside0.mk (blk_below BK737.out hb); clear hb hbox hg; have hnb9 := NB736_737.out; have hnc9 := NB737_736.out; have hnb10 := NB736_738.out; have hnc10 := NB738_736.out; have hcz11_0 : w8.cell? ⟨gb736, 0, none⟩ = some (.bool a0_0) := bc0 BK736.out; have hcz11_1 : w8.cell? ⟨gb736, 1, none⟩ = some (.slice A0_1 l0_1.length c0_1) := bc1 BK736.out; have hfz11_0 := blk_frozen BK736.out 0; have hfz11_1 := blk_frozen BK736.out 1; have hnb12 := NB737_738.out; have hnc12 := NB738_737.out; have hcz13_0 : w8.cell? ⟨gb737, 0, none⟩ = some (.bool a1_0) := bc0 BK737.out; have hcz13_1 : w8.cell? ⟨gb737, 1, none⟩ = some (.slice A1_1 l1_1.length c1_1) := bc1 BK737.out; have hfz13_0 := blk_frozen BK737.out 0; have hfz13_1 := blk_frozen BK737.out 1))
  replace BK736 := Aside0.mk (blk_drew BK736.out)
  replace BK737 := Aside0.mk (blk_drew BK737.out)
  replace BK738 := Aside0.mk (blk_drew BK738.out)
  replace HB := Aside0.mk (below_drew1 HB.out)
  refine start_ (n := 10) (S := fun w' => w'.cell? ⟨gb736, 0, none⟩ = some (.bool a0_0) ∧ w'.cell? ⟨gb736, 1, none⟩ = some (.slice A0_1 l0_1.length c0_1) ∧ w'.cell? ⟨gb737, 0, none⟩ = some (.bool a1_0) ∧ w'.cell? ⟨gb737, 1, none⟩ = some (.slice A1_1 l1_1.length c1_1)) (ds := []) #[false, false, false, false, false, false, false, false, false, false] (by kernel_rfl) rfl rfl ⟨bc0 BK736.out, bc1 BK736.out, bc0 BK737.out, bc1 BK737.out⟩ (fun hHeld => ?_); refine with_tabW gudgeonref02_Add.tab2 gudgeonref02_Add.bits2 (fun HT_ HW_ => ?_)
  generalize w8.drew = w14 at BK736 BK737 BK738 HB hHeld ⊢
  refine pure_ (i := 0) (N := some 14) (v := ?_) (a' := ?_) #[true, false, false, false, false, false, false, false, false, false] rfl rfl (any_of HT_.out (by kernel_rfl)) (fun _ _ _ h => h) (Or.inl ⟨by rfl, ?_⟩) ?_ ?_
  rotate_left
  ·intro w'
   go_simp
   with_reducible rfl
  rotate_left
  ·simp only [Act.put, List.setIfInBounds_toArray, List.set_cons_zero, List.set_cons_succ, i64_w, i32_w]
   rfl
  refine pure_ (i := 2) (N := some 16) (v := ?_) (a' := ?_) #[true, false, true, false, false, false, false, false, false, false] rfl rfl (any_of HT_.out (by kernel_rfl)) (fun _ _ _ h => h) (Or.inl ⟨by rfl, ?_⟩) ?_ ?_
  rotate_left
  ·intro w'
   go_simp
   with_reducible rfl
  rotate_left
  ·simp only [Act.put, List.setIfInBounds_toArray, List.set_cons_zero, List.set_cons_succ, i64_w, i32_w]
   rfl
  refine pure_ (i := 4) (N := some 18) (v := ?_) (a' := ?_) #[true, false, true, false, true, false, false, false, false, false] rfl rfl (any_of HT_.out (by kernel_rfl)) (fun _ _ _ h => h) (Or.inl ⟨by rfl, ?_⟩) ?_ ?_
  rotate_left
  ·intro w'
   go_simp
   with_reducible rfl
  rotate_left
  ·simp only [Act.put, List.setIfInBounds_toArray, List.set_cons_zero, List.set_cons_succ, i64_w, i32_w]
   rfl
  refine take_ (i := 1) (N := some 15) (v := ?_) (a' := ?_) #[true, true, true, false, true, false, false, false, false, false] rfl rfl (take_ofW HT_.out HW_.out (by kernel_rfl)) (fun _ _ _ h => h) (Or.inl ⟨by rfl, ?_⟩) hHeld ?_ ?_
  rotate_left
  ·rintro w' ⟨s0, s1, s2, s3⟩
   go_simp
   with_reducible rfl
  rotate_left
  ·simp only [Act.put, List.setIfInBounds_toArray, List.set_cons_zero, List.set_cons_succ, i64_w, i32_w]
   rfl
  refine take_ (i := 3) (N := some 17) (v := ?_) (a' := ?_) #[true, true, true, true, true, false, false, false, false, false] rfl rfl (take_ofW HT_.out HW_.out (by kernel_rfl)) (fun _ _ _ h => h) (Or.inl ⟨by rfl, ?_⟩) hHeld ?_ ?_
  rotate_left
  ·rintro w' ⟨s0, s1, s2, s3⟩
   go_simp
   with_reducible rfl
  rotate_left
  ·simp only [Act.put, List.setIfInBounds_toArray, List.set_cons_zero, List.set_cons_succ, i64_w, i32_w]
   rfl
  refine take_ (i := 5) (N := some 19) (v := ?_) (a' := ?_) #[true, true, true, true, true, true, false, false, false, false] rfl rfl (take_ofW HT_.out HW_.out (by kernel_rfl)) (fun _ _ _ h => h) (Or.inl ⟨by rfl, ?_⟩) hHeld ?_ ?_
  rotate_left
  ·rintro w' ⟨s0, s1, s2, s3⟩
   go_simp
   with_reducible rfl
  rotate_left
  ·simp only [Act.put, List.setIfInBounds_toArray, List.set_cons_zero, List.set_cons_succ, i64_w, i32_w]
   rfl
  refine one_ (i := 6) (N := some 20) #[true, true, true, true, true, true, true, false, false, false] rfl rfl (one_of HT_.out (by kernel_rfl)) (by decide) (fun K hK => ?_)
  refine goR Try.func76 [.slice A0_1 l0_1.length c0_1, .slice A1_1 l1_1.length c1_1] ?_
  with_reducible refine (gudgeonref01_Add.calls k _ _ l0_1 _ _ l1_1 t739 _ ?side1 ?side2 ?side3 ?side4 A4.out).mono ?_
  (case side1 => exact (Kd.C_below HR0_1.out HB.out))
  (case side2 => exact HC0_1.out)
  (case side3 => exact (Kd.C_below HR1_1.out HB.out))
  (case side4 => exact HC1_1.out)
  rintro e w15 ⟨v740, rfl, ho0, hb⟩
  refine ⟨_, rfl, ?_⟩
  have HO741 := Aside0.mk (Kd.R_lower ho0 (below_size HB.out))
  replace BK736 := Aside0.mk (blk_below BK736.out hb)
  replace BK737 := Aside0.mk (blk_below BK737.out hb)
  replace BK738 := Aside0.mk (blk_below BK738.out hb)
  replace HB := Aside0.mk (below_step HB.out hb)
  (try clear hb)
  (try clear hb2)
  (try clear hk)
  (try clear hi)
  (try clear ho0)
  obtain ⟨Ao16, co16, eo16⟩ := Kd.R_slice HO741.out
  subst eo16
  refine hK.out _ _ ⟨bc0 BK736.out, bc1 BK736.out, bc0 BK737.out, bc1 BK737.out⟩ (fun hHeld => ?_)
  clear hK K
  refine norm_ (a' := ?_) ?_ ?_
  rotate_left
  ·show Act.put _ (some 20) _ = _
   simp only [Act.put, List.setIfInBounds_toArray, List.set_cons_zero, List.set_cons_succ, i64_w, i32_w]
   rfl
  refine pure_ (i := 7) (N := some 21) (v := ?_) (a' := ?_) #[true, true, true, true, true, true, true, true, false, false] rfl rfl (any_of HT_.out (by kernel_rfl)) (fun _ _ _ h => h) (Or.inl ⟨by rfl, ?_⟩) ?_ ?_
  rotate_left
  ·intro w'
   go_simp
   with_reducible rfl
  rotate_left
  ·simp only [Act.put, List.setIfInBounds_toArray, List.set_cons_zero, List.set_cons_succ, i64_w, i32_w]
   rfl
  refine one_ (i := 8) (N := some 22) #[true, true, true, true, true, true, true, true, true, false] rfl rfl (one_of HT_.out (by kernel_rfl)) (by decide) (fun K hK => ?_)
  refine goR Try.func54 [.agg #[.bool a0_0, .slice Ao16 t739.length co16]] ?_
  with_reducible refine (gudgeonref02_Norm.calls k a0_0 _ _ t739 t742 t743 _ ?side1 ?side2 A5.out).mono ?_
  (case side1 => exact (Kd.R_reads' HO741.out).2.2)
  (case side2 => exact (Kd.R_reads' HO741.out).2.1)
  rintro e w17 ⟨v744, rfl, ho0, hb⟩
  refine ⟨_, rfl, ?_⟩
  have HO745 := Aside0.mk (Kd.R_lower (Kd.R_new' ho0 (Kd.R_lt HO741.out)) (below_size HB.out))
  replace BK736 := Aside0.mk (blk_below BK736.out hb)
  replace BK737 := Aside0.mk (blk_below BK737.out hb)
  replace BK738 := Aside0.mk (blk_below BK738.out hb)
  replace HB := Aside0.mk (below_step HB.out hb)
  (try clear hb)
  (try clear hb2)
  (try clear hk)
  (try clear hi)
  (try clear ho0)
  obtain ⟨Ao19, co19, eo19⟩ := Kd.R_slice HO745.out
  subst eo19
  refine hK.out _ _ ⟨bc0 BK736.out, bc1 BK736.out, bc0 BK737.out, bc1 BK737.out⟩ (fun hHeld => ?_)
  clear hK K
  refine norm_ (a' := ?_) ?_ ?_
  rotate_left
  ·show Act.put _ (some 22) _ = _
   simp only [Act.put, List.setIfInBounds_toArray, List.set_cons_zero, List.set_cons_succ, i64_w, i32_w]
   rfl
  refine one_ (i := 9) (N := none) #[true, true, true, true, true, true, true, true, true, true] rfl rfl (one_of HT_.out (by kernel_rfl)) (by decide) (fun K hK => ?_)
  have hs18 : w17.cell? ⟨gb738, 0, none⟩ = some (.bool false) := bc0 BK738.out
  have hfs18 := blk_frozen BK738.out 0
  have hns18_0 := NB736_738.out
  have hns18_1 := NB737_738.out
  have hms18_0 := NB738_736.out
  have hms18_1 := NB738_737.out
  have hs20 : w17.cell? ⟨gb738, 1, none⟩ = some (.slice none 0 0) := bc1 BK738.out
  have hfs20 := blk_frozen BK738.out 1
  have hns20_0 := NB736_738.out
  have hns20_1 := NB737_738.out
  have hms20_0 := NB738_736.out
  have hms20_1 := NB738_737.out
  refine skip_ (w1 := ?_) (by rfl) rfl ?_ ?_
  rotate_left
  ·go_simp
   rfl
  refine hK.out _ _ ⟨((cell_far (p := ⟨gb738, _, none⟩) NB736_738.out _).trans (((cell_far (p := ⟨gb738, _, none⟩) NB736_738.out _).trans (hHeld.1)))), ((cell_far (p := ⟨gb738, _, none⟩) NB736_738.out _).trans (((cell_far (p := ⟨gb738, _, none⟩) NB736_738.out _).trans (hHeld.2.1)))), ((cell_far (p := ⟨gb738, _, none⟩) NB737_738.out _).trans (((cell_far (p := ⟨gb738, _, none⟩) NB737_738.out _).trans (hHeld.2.2.1)))), ((cell_far (p := ⟨gb738, _, none⟩) NB737_738.out _).trans (((cell_far (p := ⟨gb738, _, none⟩) NB737_738.out _).trans (hHeld.2.2.2))))⟩ (fun hHeld => ?_)
  clear hK K
  refine done_ (done_of HT_.out (by kernel_rfl)) ?_
  try go_wp2
  refine bodyPost_ret (results_cell_row rfl _ _ gb738 24 #[.bool t742, .slice Ao19 t743.length co19] (0, 0) _ rfl (by refine blk_put (cs := #[.bool t742, .slice none 0 0]) ?_ 1 _ rfl; refine blk_put (cs := #[.bool false, .slice none 0 0]) ?_ 0 _ rfl; exact BK738.out) Try.underlying24 rfl (by kernel_rfl)) rfl ?_
  exact ⟨_, rfl, Kd.R_mono (Kd.R_far (p := ⟨gb738, 1, none⟩) (Kd.R_far (p := ⟨gb738, 0, none⟩) (Kd.R_types HO745.out BK738.out (by decide)) (fun _ hk => hk.2) (.bool t742)) (fun _ hk => hk.2) (.slice Ao19 t743.length co19)) (fun _ hk => trivial), by repeat first | exact HB.out | refine bxSet ?_ (by assumption) | apply below_alloc | apply pw_below_drewN⟩
 ·rw [if_neg c3] at H
  have c3b0 : (a0_0 == a1_0) = false := by simpa using c3
  (try (have c3b1 : decide (a0_0 = a1_0) = false := by simpa using c3))
  (try (have c3b2 : (a0_0 == a1_0) = false := by simpa using c3))
  (try (have c3b3 : ¬ (a0_0 = a1_0) := by simpa using c3))
  clear c3
  obtain ⟨⟨t746, t747⟩, A210, H⟩ := Option.bind_eq_some_iff.mp H
  try dsimp only at H
  have A21 := Aside0.mk A210
  clear A210
  by_cases c22 : t747 = 0
  ·rw [if_pos c22] at H
   have c22b0 : (t747 == 0) = true := beq_iff_eq.mpr c22
   have c22b1 : (t747 != 0) = false := bne_eq_false_iff_eq.mpr c22
   clear c22
   obtain ⟨⟨t750, t751⟩, A230, H⟩ := Option.bind_eq_some_iff.mp H
   try dsimp only at H
   have A23 := Aside0.mk A230
   clear A230
   simp only [Option.some.injEq, Prod.mk.injEq] at H
   obtain ⟨rfl, rfl⟩ := H
   go_enter Try.func55, Try.ntmps55
   go_wp2_with (first | ((with_reducible refine gate_dst (N := 2) rfl ?_); refine box_event ?hg (N := 2) ?hd (cs := #[.bool a0_0, .slice A0_1 l0_1.length c0_1]) (t := 24) ?hr ?_; (case hd => rfl); (case hg => rfl); (case hr => first | (go_simp; done) | (go_simp; rfl)); intro gb736 hg w24 hbox hb; have BK736 := Aside0.mk (hbox); have GW736 := Aside0.mk (bxLe HB.out hg); have GE736 := GW736; replace HB := Aside0.mk (below_step HB.out hb); clear hb hbox hg) | ((with_reducible refine gate_dst (N := 3) rfl ?_); refine box_event ?hg (N := 3) ?hd (cs := #[.bool a1_0, .slice A1_1 l1_1.length c1_1]) (t := 24) ?hr ?_; (case hd => rfl); (case hg => rfl); (case hr => first | (go_simp; done) | (go_simp; rfl)); intro gb737 hg w25 hbox hb; have BK737 := Aside0.mk (hbox); have GW737 := Aside0.mk (bxLe HB.out hg); have GE737 := GW737; replace HB := Aside0.mk (below_step HB.out hb); have NB736_737 := Aside0.mk (neL BK736.out hg); have NB737_736 := Aside0.mk (neR BK736.out hg); replace BK736 := Aside0.mk (blk_below BK736.out hb); clear hb hbox hg) | ((with_reducible refine gate_dst (N := 4) rfl ?_); refine box_event ?hg (N := 4) ?hd (cs := #[.bool false, .slice none 0 0]) (t := 24) ?hr ?_; (case hd => rfl); (case hg => rfl); (case hr => first | (go_simp; done) | (go_simp; rfl)); intro gb738 hg w26 hbox hb; have BK738 := Aside0.mk (hbox); have GW738 := Aside0.mk (bxLe HB.out hg); have GE738 := GW738; replace HB := Aside0.mk (below_step HB.out hb); have NB736_738 := Aside0.mk (neL BK736.out hg); have NB738_736 := Aside0.mk (neR BK736.out hg); replace BK736 := Aside0.mk (blk_below BK736.out hb); have NB737_738 := Aside0.mk (neL BK737.out hg); have NB738_737 := Aside0.mk (neR BK737.out hg); replace BK737 := Aside0.mk (blk_below BK737.out hb); clear hb hbox hg; have hnb27 := NB736_737.out; have hnc27 := NB737_736.out; have hnb28 := NB736_738.out; have hnc28 := NB738_736.out; have hcz29_0 : w26.cell? ⟨gb736, 0, none⟩ = some (.bool a0_0) := bc0 BK736.out; have hcz29_1 : w26.cell? ⟨gb736, 1, none⟩ = some (.slice A0_1 l0_1.length c0_1) := bc1 BK736.out; have hfz29_0 := blk_frozen BK736.out 0; have hfz29_1 := blk_frozen BK736.out 1; have hnb30 := NB737_738.out; have hnc30 := NB738_737.out; have hcz31_0 : w26.cell? ⟨gb737, 0, none⟩ = some (.bool a1_0) := bc0 BK737.out; have hcz31_1 : w26.cell? ⟨gb737, 1, none⟩ = some (.slice A1_1 l1_1.length c1_1) := bc1 BK737.out; have hfz31_0 := blk_frozen BK737.out 0; have hfz31_1 := blk_frozen BK737.out 1) | ((with_reducible refine gate_callee (f := 78) rfl ?_); refine goL (some 28) Try.func78 [.slice A0_1 l0_1.length c0_1, .slice A1_1 l1_1.length c1_1] ?_; (with_reducible refine (gudgeonref01_Sub.calls k _ _ l0_1 _ _ l1_1 t746 t747 _ ?side1 ?side2 ?side3 ?side4 A21.out).mono ?_); (case side1 => exact (Kd.C_below HR0_1.out HB.out)); (case side2 => exact HC0_1.out); (case side3 => exact (Kd.C_below HR1_1.out HB.out)); (case side4 => exact HC1_1.out); rintro e w32 ⟨v748, rfl, ho0, hb⟩; refine ⟨_, rfl, ?_⟩; have HO749 := Aside0.mk (Kd.R_lower ho0 (below_size HB.out)); replace BK736 := Aside0.mk (blk_below BK736.out hb); replace BK738 := Aside0.mk (blk_below BK738.out hb); replace HB := Aside0.mk (below_step HB.out hb); have hcz33_0 : w32.cell? ⟨gb736, 0, none⟩ = some (.bool a0_0) := bc0 BK736.out; have hcz33_1 : w32.cell? ⟨gb736, 1, none⟩ = some (.slice A0_1 l0_1.length c0_1) := bc1 BK736.out; have hfz33_0 := blk_frozen BK736.out 0; have hfz33_1 := blk_frozen BK736.out 1; obtain ⟨Ao34, co34, eo34⟩ := Kd.R_slice HO749.out; subst eo34) | ((with_reducible refine gate_callee (f := 54) rfl ?_); refine goL (some 37) Try.func54 [.agg #[.bool a0_0, .slice Ao34 t746.length co34]] ?_; (with_reducible refine (gudgeonref02_Norm.calls k a0_0 _ _ t746 t750 t751 _ ?side1 ?side2 A23.out).mono ?_); (case side1 => exact (Kd.R_reads' HO749.out).2.2); (case side2 => exact (Kd.R_reads' HO749.out).2.1); rintro e w35 ⟨v752, rfl, ho0, hb⟩; refine ⟨_, rfl, ?_⟩; have HO753 := Aside0.mk (Kd.R_lower (Kd.R_new' ho0 (Kd.R_lt HO749.out)) (below_size HB.out)); replace BK738 := Aside0.mk (blk_below BK738.out hb); replace HB := Aside0.mk (below_step HB.out hb); have hcz36_0 : w35.cell? ⟨gb738, 0, none⟩ = some (.bool false) := bc0 BK738.out; have hcz36_1 : w35.cell? ⟨gb738, 1, none⟩ = some (.slice none 0 0) := bc1 BK738.out; have hfz36_0 := blk_frozen BK738.out 0; have hfz36_1 := blk_frozen BK738.out 1; obtain ⟨Ao37, co37, eo37⟩ := Kd.R_slice HO753.out; subst eo37))
   refine bodyPost_ret (results_cell_row rfl _ _ gb738 24 #[.bool t750, .slice Ao37 t751.length co37] (0, 0) _ rfl (by refine blk_put (cs := #[.bool t750, .slice none 0 0]) ?_ 1 _ rfl; refine blk_put (cs := #[.bool false, .slice none 0 0]) ?_ 0 _ rfl; exact BK738.out) Try.underlying24 rfl (by kernel_rfl)) rfl ?_
   exact ⟨_, rfl, Kd.R_mono (Kd.R_far (p := ⟨gb738, 1, none⟩) (Kd.R_far (p := ⟨gb738, 0, none⟩) (Kd.R_types HO753.out BK738.out (by decide)) (fun _ hk => hk.2) (.bool t750)) (fun _ hk => hk.2) (.slice Ao37 t751.length co37)) (fun _ hk => trivial), by repeat first | exact HB.out | refine bxSet ?_ (by assumption) | apply below_alloc | apply pw_below_drewN⟩
  ·rw [if_neg c22] at H
   have c22b0 : (t747 == 0) = false := beq_eq_false_iff_ne.mpr c22
   have c22b1 : (t747 != 0) = true := bne_iff_ne.mpr c22
   obtain ⟨⟨t754, t755⟩, A380, H⟩ := Option.bind_eq_some_iff.mp H
   try dsimp only at H
   have A38 := Aside0.mk A380
   clear A380
   obtain ⟨⟨t758, t759⟩, A390, H⟩ := Option.bind_eq_some_iff.mp H
   try dsimp only at H
   have A39 := Aside0.mk A390
   clear A390
   simp only [Option.some.injEq, Prod.mk.injEq] at H
   obtain ⟨rfl, rfl⟩ := H
   go_enter Try.func55, Try.ntmps55
   go_wp2_with (first | ((with_reducible refine gate_dst (N := 2) rfl ?_); refine box_event ?hg (N := 2) ?hd (cs := #[.bool a0_0, .slice A0_1 l0_1.length c0_1]) (t := 24) ?hr ?_; (case hd => rfl); (case hg => rfl); (case hr => first | (go_simp; done) | (go_simp; rfl)); intro gb736 hg w40 hbox hb; have BK736 := Aside0.mk (hbox); have GW736 := Aside0.mk (bxLe HB.out hg); have GE736 := GW736; replace HB := Aside0.mk (below_step HB.out hb); clear hb hbox hg) | ((with_reducible refine gate_dst (N := 3) rfl ?_); refine box_event ?hg (N := 3) ?hd (cs := #[.bool a1_0, .slice A1_1 l1_1.length c1_1]) (t := 24) ?hr ?_; (case hd => rfl); (case hg => rfl); (case hr => first | (go_simp; done) | (go_simp; rfl)); intro gb737 hg w41 hbox hb; have BK737 := Aside0.mk (hbox); have GW737 := Aside0.mk (bxLe HB.out hg); have GE737 := GW737; replace HB := Aside0.mk (below_step HB.out hb); have NB736_737 := Aside0.mk (neL BK736.out hg); have NB737_736 := Aside0.mk (neR BK736.out hg); replace BK736 := Aside0.mk (blk_below BK736.out hb); clear hb hbox hg) | ((with_reducible refine gate_dst (N := 4) rfl ?_); refine box_event ?hg (N := 4) ?hd (cs := #[.bool false, .slice none 0 0]) (t := 24) ?hr ?_; (case hd => rfl); (case hg => rfl); (case hr => first | (go_simp; done) | (go_simp; rfl)); intro gb738 hg w42 hbox hb; have BK738 := Aside0.mk (hbox); have GW738 := Aside0.mk (bxLe HB.out hg); have GE738 := GW738; replace HB := Aside0.mk (below_step HB.out hb); have NB736_738 := Aside0.mk (neL BK736.out hg); have NB738_736 := Aside0.mk (neR BK736.out hg); replace BK736 := Aside0.mk (blk_below BK736.out hb); have NB737_738 := Aside0.mk (neL BK737.out hg); have NB738_737 := Aside0.mk (neR BK737.out hg); replace BK737 := Aside0.mk (blk_below BK737.out hb); clear hb hbox hg; have hnb43 := NB736_737.out; have hnc43 := NB737_736.out; have hnb44 := NB736_738.out; have hnc44 := NB738_736.out; have hcz45_0 : w42.cell? ⟨gb736, 0, none⟩ = some (.bool a0_0) := bc0 BK736.out; have hcz45_1 : w42.cell? ⟨gb736, 1, none⟩ = some (.slice A0_1 l0_1.length c0_1) := bc1 BK736.out; have hfz45_0 := blk_frozen BK736.out 0; have hfz45_1 := blk_frozen BK736.out 1; have hnb46 := NB737_738.out; have hnc46 := NB738_737.out; have hcz47_0 : w42.cell? ⟨gb737, 0, none⟩ = some (.bool a1_0) := bc0 BK737.out; have hcz47_1 : w42.cell? ⟨gb737, 1, none⟩ = some (.slice A1_1 l1_1.length c1_1) := bc1 BK737.out; have hfz47_0 := blk_frozen BK737.out 0; have hfz47_1 := blk_frozen BK737.out 1) | ((with_reducible refine gate_callee (f := 78) rfl ?_); refine goL (some 28) Try.func78 [.slice A0_1 l0_1.length c0_1, .slice A1_1 l1_1.length c1_1] ?_; (with_reducible refine (gudgeonref01_Sub.calls k _ _ l0_1 _ _ l1_1 t746 t747 _ ?side1 ?side2 ?side3 ?side4 A21.out).mono ?_); (case side1 => exact (Kd.C_below HR0_1.out HB.out)); (case side2 => exact HC0_1.out); (case side3 => exact (Kd.C_below HR1_1.out HB.out)); (case side4 => exact HC1_1.out); rintro e w48 ⟨v748, rfl, ho0, hb⟩; refine ⟨_, rfl, ?_⟩; have HO749 := Aside0.mk (Kd.R_lower ho0 (below_size HB.out)); replace BK736 := Aside0.mk (blk_below BK736.out hb); replace BK737 := Aside0.mk (blk_below BK737.out hb); replace BK738 := Aside0.mk (blk_below BK738.out hb); replace HB := Aside0.mk (below_step HB.out hb); have hcz49_0 : w48.cell? ⟨gb737, 0, none⟩ = some (.bool a1_0) := bc0 BK737.out; have hcz49_1 : w48.cell? ⟨gb737, 1, none⟩ = some (.slice A1_1 l1_1.length c1_1) := bc1 BK737.out; have hfz49_0 := blk_frozen BK737.out 0; have hfz49_1 := blk_frozen BK737.out 1; have hcz50_0 : w48.cell? ⟨gb736, 0, none⟩ = some (.bool a0_0) := bc0 BK736.out; have hcz50_1 : w48.cell? ⟨gb736, 1, none⟩ = some (.slice A0_1 l0_1.length c0_1) := bc1 BK736.out; have hfz50_0 := blk_frozen BK736.out 0; have hfz50_1 := blk_frozen BK736.out 1) | ((with_reducible refine gate_callee (f := 78) rfl ?_); refine goL (some 43) Try.func78 [.slice A1_1 l1_1.length c1_1, .slice A0_1 l0_1.length c0_1] ?_; (with_reducible refine (gudgeonref01_Sub.calls k _ _ l1_1 _ _ l0_1 t754 t755 _ ?side1 ?side2 ?side3 ?side4 A38.out).mono ?_); (case side1 => exact (Kd.C_below HR1_1.out HB.out)); (case side2 => exact HC1_1.out); (case side3 => exact (Kd.C_below HR0_1.out HB.out)); (case side4 => exact HC0_1.out); rintro e w51 ⟨v756, rfl, ho0, hb⟩; refine ⟨_, rfl, ?_⟩; have HO757 := Aside0.mk (Kd.R_lower (Kd.R_new' ho0 (Kd.R_lt HO749.out)) (below_size HB.out)); replace HO749 := Aside0.mk (Kd.R_elder' HO749.out (Kd.R_base ho0) hb); replace BK737 := Aside0.mk (blk_below BK737.out hb); replace BK738 := Aside0.mk (blk_below BK738.out hb); replace HB := Aside0.mk (below_step HB.out hb); have hcz52_0 : w51.cell? ⟨gb737, 0, none⟩ = some (.bool a1_0) := bc0 BK737.out; have hcz52_1 : w51.cell? ⟨gb737, 1, none⟩ = some (.slice A1_1 l1_1.length c1_1) := bc1 BK737.out; have hfz52_0 := blk_frozen BK737.out 0; have hfz52_1 := blk_frozen BK737.out 1; obtain ⟨Ao53, co53, eo53⟩ := Kd.R_slice HO757.out; subst eo53) | ((with_reducible refine gate_callee (f := 54) rfl ?_); refine goL (some 50) Try.func54 [.agg #[.bool a1_0, .slice Ao53 t754.length co53]] ?_; (with_reducible refine (gudgeonref02_Norm.calls k a1_0 _ _ t754 t758 t759 _ ?side1 ?side2 A39.out).mono ?_); (case side1 => exact (Kd.R_reads' HO757.out).2.2); (case side2 => exact (Kd.R_reads' HO757.out).2.1); rintro e w54 ⟨v760, rfl, ho0, hb⟩; refine ⟨_, rfl, ?_⟩; have HO761 := Aside0.mk (Kd.R_lower (Kd.R_new' (Kd.R_new' ho0 (Kd.R_lt HO749.out)) (Kd.R_lt HO757.out)) (below_size HB.out)); replace BK738 := Aside0.mk (blk_below BK738.out hb); replace HB := Aside0.mk (below_step HB.out hb); have hcz55_0 : w54.cell? ⟨gb738, 0, none⟩ = some (.bool false) := bc0 BK738.out; have hcz55_1 : w54.cell? ⟨gb738, 1, none⟩ = some (.slice none 0 0) := bc1 BK738.out; have hfz55_0 := blk_frozen BK738.out 0; have hfz55_1 := blk_frozen BK738.out 1; obtain ⟨Ao56, co56, eo56⟩ := Kd.R_slice HO761.out; subst eo56))
   refine bodyPost_ret (results_cell_row rfl _ _ gb738 24 #[.bool t758, .slice Ao56 t759.length co56] (0, 0) _ rfl (by refine blk_put (cs := #[.bool t758, .slice none 0 0]) ?_ 1 _ rfl; refine blk_put (cs := #[.bool false, .slice none 0 0]) ?_ 0 _ rfl; exact BK738.out) Try.underlying24 rfl (by kernel_rfl)) rfl ?_
   exact ⟨_, rfl, Kd.R_mono (Kd.R_far (p := ⟨gb738, 1, none⟩) (Kd.R_far (p := ⟨gb738, 0, none⟩) (Kd.R_types HO761.out BK738.out (by decide)) (fun _ hk => hk.2) (.bool t758)) (fun _ hk => hk.2) (.slice Ao56 t759.length co56)) (fun _ hk => trivial), by repeat first | exact HB.out | refine bxSet ?_ (by assumption) | apply below_alloc | apply pw_below_drewN⟩

/-! ### gudgeonref01_mul: function 97 -/
def gudgeonref01_mul.l0 : Nat → List Bool → List Bool → List Bool → Int → Option (List Bool)
 | 0, _, _, _, _ => none
 | k + 1, x0, x1, x5, x6 => if x6 ≥ 0 then ((some (([false] : List Bool) : List Bool)).bind fun y762 => (if y762.length + x5.length < 140737488355328 then ((some (y762 ++ x5 : List Bool)).bind fun y765 => (if 0 ≤ x6 then (if x6 < (x0.length : Int) then (if rdOf false x0 x6 = true then ((gudgeonref01_add.f k y765 x1).bind fun t769 => (gudgeonref01_mul.l0 k x0 x1 t769 (wrap64 (x6 - 1)))) else (gudgeonref01_mul.l0 k x0 x1 y765 (wrap64 (x6 - 1)))) else (none)) else (none))) else (none))) else ((gudgeonref01_trim.f k x5).bind fun t772 => (some t772))
def gudgeonref01_mul.f (k : Nat) (l0 : List Bool) (l1 : List Bool) : Option (List Bool) := gudgeonref01_mul.l0 k l0 l1 ([] : List Bool) (wrap64 ((l0.length : Int) - 1))
set_option maxHeartbeats 8000000 in
set_option maxRecDepth 100000 in
theorem gudgeonref01_mul.calls (k : Nat) (A0 : Option Addr) (c0 : Nat) (l0 : List Bool) (A1 : Option Addr) (c1 : Nat) (l1 : List Bool) (r : List Bool) (w : World) (hr0 : Kd.C Kd.bool w A0 l0.length l0) (hc0 : l0.length ≤ c0) (hr1 : Kd.C Kd.bool w A1 l1.length l1) (hc1 : l1.length ≤ c1) (h : gudgeonref01_mul.f k l0 l1 = some r) :
  Calls Try.prog 97 #[.slice A0 l0.length c0, .slice A1 l1.length c1] w fun e w' => ∃ v0_ : Value, e = .returned (v0_) ∧ Kd.R Kd.bool 4 w' w.heap.size (fun _ => True) v0_ r ∧ Below w.heap.size w w' := by
 have HR0 := Aside0.mk hr0
 have HC0 := Aside0.mk hc0
 clear hr0 hc0
 have HR1 := Aside0.mk hr1
 have HC1 := Aside0.mk hc1
 clear hr1 hc1
 have HB := Aside0.mk (Below.refl w.heap.size w)
 have H : (gudgeonref01_mul.l0 k l0 l1 ([] : List Bool) (wrap64 ((l0.length : Int) - 1))) = some r := h
 clear h
 have H' := Aside0.mk H
 clear H
 go_enter Try.func97, Try.ntmps97
 go_wp2
 go_loopg [5, 6] k (fun kq v5 v6 w' => ∃ (x5_1 : List Bool) (x6_1 : Int), v6 = .int .i64 x6_1 ∧ Aside0 (gudgeonref01_mul.l0 kq l0 l1 x5_1 x6_1 = some r) ∧ Aside0 (kq ≤ k) ∧ Aside0 (Kd.R Kd.bool 4 w' w.heap.size (fun _ => True) v5 x5_1) ∧ Aside0 (Below w.heap.size w w'))
 case atStart => exact ⟨(([] : List Bool)), (wrap64 ((l0.length : Int) - 1)), (by first | rfl | (simp; done)), H', ⟨Nat.le_refl _⟩, ⟨by first | exact Kd.R_nil _ _ _ _ _ | exact Kd.N_nil _ _ _ _ _ | exact Kd.V_nil _ _ _ _ _ | exact Kd.Q_nil _ _ _ _ _ | exact Kd.S_nil _ _ _ _ _⟩, ⟨HB.out⟩⟩
 case round =>
  clear H'
  try clear c1
  try clear p2
  obtain ⟨x5_1, x6_1, rfl, HA, HK1, HO_5, HB⟩ := hrel
  cases gk with
  | zero => exact absurd HA.out (by simp [gudgeonref01_mul.l0])
  | succ k1 =>
   have H := HA.out
   clear HA
   simp only [gudgeonref01_mul.l0] at H
   by_cases c3 : x6_1 ≥ 0
   ·rw [if_pos c3] at H
    have c3b0 : decide (0 ≤ x6_1) = true := decide_eq_true c3
    clear c3
    obtain ⟨y762, hy762⟩ : ∃ y_ : List Bool, y_ = (([false] : List Bool)) := ⟨_, rfl⟩
    replace H : (if y762.length + x5_1.length < 140737488355328 then ((some (y762 ++ x5_1 : List Bool)).bind fun y765 => (if 0 ≤ x6_1 then (if x6_1 < (l0.length : Int) then (if rdOf false l0 x6_1 = true then ((gudgeonref01_add.f k1 y765 l1).bind fun t769 => (gudgeonref01_mul.l0 k1 l0 l1 t769 (wrap64 (x6_1 - 1)))) else (gudgeonref01_mul.l0 k1 l0 l1 y765 (wrap64 (x6_1 - 1)))) else (none)) else (none))) else (none)) = some r := by first | (rw [hy762]; with_reducible exact H) | (have H2_ := (Option.bind_some _ _).symm.trans H; rw [hy762]; with_reducible exact H2_) | (have H2_ := (Option.bind_some _ _).symm.trans H; with_reducible exact H2_) | with_reducible exact H | (rw [hy762]; exact H) | exact H
    have Ny762 := Aside0.mk hy762
    clear hy762
    by_cases c4 : y762.length + x5_1.length < 140737488355328
    ·rw [if_pos c4] at H
     have LMc4 := Aside0.mk c4
     clear c4
     obtain ⟨y765, hy765⟩ : ∃ y_ : List Bool, y_ = (y762 ++ x5_1) := ⟨_, rfl⟩
     replace H : (if 0 ≤ x6_1 then (if x6_1 < (l0.length : Int) then (if rdOf false l0 x6_1 = true then ((gudgeonref01_add.f k1 y765 l1).bind fun t769 => (gudgeonref01_mul.l0 k1 l0 l1 t769 (wrap64 (x6_1 - 1)))) else (gudgeonref01_mul.l0 k1 l0 l1 y765 (wrap64 (x6_1 - 1)))) else (none)) else (none)) = some r := by first | (rw [hy765]; with_reducible exact H) | (have H2_ := (Option.bind_some _ _).symm.trans H; rw [hy765]; with_reducible exact H2_) | (have H2_ := (Option.bind_some _ _).symm.trans H; with_reducible exact H2_) | with_reducible exact H | (rw [hy765]; exact H) | exact H
     have Ny765 := Aside0.mk hy765
     clear hy765
     by_cases c5 : 0 ≤ x6_1
     ·rw [if_pos c5] at H
      have c5b0 : decide (0 ≤ x6_1) = true := decide_eq_true c5
      clear c5
      by_cases c6 : x6_1 < (l0.length : Int)
      ·rw [if_pos c6] at H
       have c6b0 : decide (x6_1 < (l0.length : Int)) = true := decide_eq_true c6
       clear c6
       obtain ⟨bq7, hbq7⟩ : ∃ b_ : Bool, b_ = (rdOf false l0 x6_1) := ⟨_, rfl⟩
       replace H : (if bq7 = true then ((gudgeonref01_add.f k1 y765 l1).bind fun t769 => (gudgeonref01_mul.l0 k1 l0 l1 t769 (wrap64 (x6_1 - 1)))) else (gudgeonref01_mul.l0 k1 l0 l1 y765 (wrap64 (x6_1 - 1)))) = some r := by rw [← hbq7] at H; exact H
       have Nbq7 := Aside0.mk hbq7
       clear hbq7
       by_cases c8 : bq7 = true
       ·subst c8
        rw [if_pos rfl] at H
        obtain ⟨t769, A90, H⟩ := Option.bind_eq_some_iff.mp H
        try dsimp only at H
        have A9 := Aside0.mk A90
        clear A90
        have H' := Aside0.mk H
        clear H
        go_wp2_with (first | ((with_reducible refine gate_dst (N := 14) rfl ?_); refine Kd.R_lit Kd.bool _ 4 ?hg (N := 14) ?hd (xs := ([false] : List Bool)) (inner := [.bool false]) (ok := fun _ => True) (okp := fun _ => True) ?hr ?hp (fun _ hk => hk) trivial (Below.refl _ _) (Nat.le_refl _) (by simp) ?_; (case hd => rfl); (case hg => rfl); (case hr => first | (go_simp; done) | (go_simp; rfl)); (case hp => exact (Reps.one (show Kd.M Kd.bool _ _ _ false [.bool false] from rfl) (Reps.none _ _))); intro v763 w10 ho11 hb hg_ hnew_; clear hg_ hnew_; (first | rw [← Ny762.out] at ho11 | (simp only [Int.reduceToNat] at ho11; rw [← Ny762.out] at ho11)); have HO764 := Aside0.mk (Kd.R_lower (Kd.R_new' ho11 (Kd.R_lt HO_5.out)) (below_size HB.out)); replace HO_5 := Aside0.mk (Kd.R_elder' HO_5.out (Kd.R_base ho11) hb); replace HB := Aside0.mk (below_step HB.out hb); clear hb ho11; obtain ⟨Ao13, co13, eo13⟩ := Kd.R_slice HO_5.out; subst eo13) | ((with_reducible refine gate_builtin (b := .append) (xs := #[.tmp 14, .tmp 15]) rfl ?_); at_builtin; refine Kd.R_append_rows Kd.bool (w0 := w) w.heap.size rfl (.tmp 14) (.tmp 15) 90 4 (.bool false) 1 rfl Try.underlying90 info4 rfl (by decide) (by omega) v763 y762 x5_1 _ _ _ (fun k_ => some k_ ≠ (.slice Ao13 x5_1.length co13 : Value).ownBlock) (fun _ => False) rfl rfl ?aO ?aR (fun _ _ h => h) (fun _ h => h.elim) ?aF ?aB ?aS ?aL ?_; (case aR => repeat (first | exact (Kd.R_reads' HO_5.out).2.2 | (with_reducible refine Kd.C_alloc ?_ _) | (with_reducible refine Kd.C_drewN ?_ _) | (with_reducible refine Kd.C_drew ?_))); (case aB => exact HB.out); (case aF => exact (fun k_ hk => Kd.fresh' (Kd.R_lt HO_5.out) k_ hk)); (case aO => exact (Kd.R_mono HO764.out (fun _ hk => hk.2))); (case aS => exact (below_size HB.out)); (case aL => have := LMc4.out; omega); intro v766 w12 ho hb hg hat; rw [← Ny765.out] at ho; have n0_ := Aside0.mk (Kd.R_after (ok := (fun _ => True)) HO_5.out hg hat); have n1_ := Aside0.mk (hb); have n2_ := Aside0.mk (ho); clear HO_5; clear HB; clear HO764; have HO_5 := n0_; have HB := n1_; have HO767 := n2_; clear n0_ n1_ n2_; clear ho hb hg hat; have p768 : 0 ≤ (x6_1 : Int) := of_decide_eq_true (by first | (with_reducible assumption) | assumption); have q768 : x6_1 < (l0.length : Int) := of_decide_eq_true (by first | (with_reducible assumption) | assumption); obtain ⟨ad768, e768, hx768_0⟩ := Kd.at_bool HR0.out x6_1 p768 q768; (try rw [← Nbq7.out] at hx768_0); cases e768; replace hx768_0 := (HB.out.cell (World.block_lt_of_cell? w _ hx768_0)).trans hx768_0; replace p768 := eq_true p768; replace q768 := eq_true q768; obtain ⟨Ao14, co14, eo14⟩ := Kd.R_slice HO767.out; subst eo14) | ((with_reducible refine gate_callee (f := 94) rfl ?_); refine goL (some 23) Try.func94 [.slice Ao14 y765.length co14, .slice A1 l1.length c1] ?_; (with_reducible refine (gudgeonref01_add.calls k1 _ _ y765 _ _ l1 t769 _ ?side1 ?side2 ?side3 ?side4 A9.out).mono ?_); (case side1 => exact (Kd.R_reads' HO767.out).2.2); (case side2 => exact (Kd.R_reads' HO767.out).2.1); (case side3 => exact (Kd.C_below HR1.out HB.out)); (case side4 => exact HC1.out); rintro e w15 ⟨v770, rfl, ho0, hb⟩; refine ⟨_, rfl, ?_⟩; have HO771 := Aside0.mk (Kd.R_lower (Kd.R_new' (Kd.R_new' ho0 (Kd.R_lt HO_5.out)) (Kd.R_lt HO767.out)) (below_size HB.out)); replace HB := Aside0.mk (below_step HB.out hb)))
        go_roundg k1
        case measure => have := HK1.out; omega
        case rel => exact ⟨(t769), (wrap64 (x6_1 - 1)), (by first | rfl | (simp; done)), H', ⟨by have := HK1.out; omega⟩, ⟨Kd.R_mono HO771.out (fun _ hk => trivial)⟩, ⟨HB.out⟩⟩
       ·replace c8 := Bool.eq_false_iff.mpr c8
        subst c8
        rw [if_neg (show ¬ (false = true) by decide)] at H
        have H' := Aside0.mk H
        clear H
        go_wp2_with (first | ((with_reducible refine gate_dst (N := 14) rfl ?_); refine Kd.R_lit Kd.bool _ 4 ?hg (N := 14) ?hd (xs := ([false] : List Bool)) (inner := [.bool false]) (ok := fun _ => True) (okp := fun _ => True) ?hr ?hp (fun _ hk => hk) trivial (Below.refl _ _) (Nat.le_refl _) (by simp) ?_; (case hd => rfl); (case hg => rfl); (case hr => first | (go_simp; done) | (go_simp; rfl)); (case hp => exact (Reps.one (show Kd.M Kd.bool _ _ _ false [.bool false] from rfl) (Reps.none _ _))); intro v763 w16 ho17 hb hg_ hnew_; clear hg_ hnew_; (first | rw [← Ny762.out] at ho17 | (simp only [Int.reduceToNat] at ho17; rw [← Ny762.out] at ho17)); have HO764 := Aside0.mk (Kd.R_lower (Kd.R_new' ho17 (Kd.R_lt HO_5.out)) (below_size HB.out)); replace HO_5 := Aside0.mk (Kd.R_elder' HO_5.out (Kd.R_base ho17) hb); replace HB := Aside0.mk (below_step HB.out hb); clear hb ho17; obtain ⟨Ao19, co19, eo19⟩ := Kd.R_slice HO_5.out; subst eo19) | ((with_reducible refine gate_builtin (b := .append) (xs := #[.tmp 14, .tmp 15]) rfl ?_); at_builtin; refine Kd.R_append_rows Kd.bool (w0 := w) w.heap.size rfl (.tmp 14) (.tmp 15) 90 4 (.bool false) 1 rfl Try.underlying90 info4 rfl (by decide) (by omega) v763 y762 x5_1 _ _ _ (fun k_ => some k_ ≠ (.slice Ao19 x5_1.length co19 : Value).ownBlock) (fun _ => False) rfl rfl ?aO ?aR (fun _ _ h => h) (fun _ h => h.elim) ?aF ?aB ?aS ?aL ?_; (case aR => repeat (first | exact (Kd.R_reads' HO_5.out).2.2 | (with_reducible refine Kd.C_alloc ?_ _) | (with_reducible refine Kd.C_drewN ?_ _) | (with_reducible refine Kd.C_drew ?_))); (case aB => exact HB.out); (case aF => exact (fun k_ hk => Kd.fresh' (Kd.R_lt HO_5.out) k_ hk)); (case aO => exact (Kd.R_mono HO764.out (fun _ hk => hk.2))); (case aS => exact (below_size HB.out)); (case aL => have := LMc4.out; omega); intro v766 w18 ho hb hg hat; rw [← Ny765.out] at ho; have n0_ := Aside0.mk (Kd.R_after (ok := (fun _ => True)) HO_5.out hg hat); have n1_ := Aside0.mk (hb); have n2_ := Aside0.mk (ho); clear HO_5; clear HB; clear HO764; have HO_5 := n0_; have HB := n1_; have HO767 := n2_; clear n0_ n1_ n2_; clear ho hb hg hat; have p768 : 0 ≤ (x6_1 : Int) := of_decide_eq_true (by first | (with_reducible assumption) | assumption); have q768 : x6_1 < (l0.length : Int) := of_decide_eq_true (by first | (with_reducible assumption) | assumption); obtain ⟨ad768, e768, hx768_0⟩ := Kd.at_bool HR0.out x6_1 p768 q768; (try rw [← Nbq7.out] at hx768_0); cases e768; replace hx768_0 := (HB.out.cell (World.block_lt_of_cell? w _ hx768_0)).trans hx768_0; replace p768 := eq_true p768; replace q768 := eq_true q768))
        go_roundg k1
        case measure => have := HK1.out; omega
        case rel => exact ⟨(y765), (wrap64 (x6_1 - 1)), (by first | rfl | (simp; done)), H', ⟨by have := HK1.out; omega⟩, ⟨Kd.R_mono HO767.out (fun _ hk => trivial)⟩, ⟨HB.out⟩⟩
      ·rw [if_neg c6] at H
       exact absurd H (by simp)
     ·rw [if_neg c5] at H
      exact absurd H (by simp)
    ·rw [if_neg c4] at H
     exact absurd H (by simp)
   ·rw [if_neg c3] at H
    have c3b0 : decide (0 ≤ x6_1) = false := decide_eq_false c3
    clear c3
    obtain ⟨t772, A200, H⟩ := Option.bind_eq_some_iff.mp H
    try dsimp only at H
    have A20 := Aside0.mk A200
    clear A200
    obtain rfl := Option.some.inj H
    obtain ⟨Ao21, co21, eo21⟩ := Kd.R_slice HO_5.out
    subst eo21
    go_wp2_with (first | ((with_reducible refine gate_callee (f := 108) rfl ?_); refine goL (some 25) Try.func108 [.slice Ao21 x5_1.length co21] ?_; (with_reducible refine (gudgeonref01_trim.calls k1 _ _ x5_1 t772 _ ?side1 ?side2 A20.out).mono ?_); (case side1 => exact (Kd.R_reads' HO_5.out).2.2); (case side2 => exact (Kd.R_reads' HO_5.out).2.1); rintro e w22 ⟨v773, rfl, ho0, hb⟩; refine ⟨_, rfl, ?_⟩; have HO774 := Aside0.mk (Kd.R_lower (Kd.R_new' ho0 (Kd.R_lt HO_5.out)) (below_size HB.out)); replace HB := Aside0.mk (below_step HB.out hb)))
    go_ret
    exact ⟨_, rfl, Kd.R_mono HO774.out (fun _ hk => trivial), HB.out⟩

end Go.Proofs.Ytdicjemjmlbmlaa.PA
/- Written by a program of this session, wip/tools/patch_print.py, over the kit's print of the loaded functions. -/
namespace Go.Proofs.Ytdicjemjmlbmlaa.H
end Go.Proofs.Ytdicjemjmlbmlaa.H
namespace Go.Proofs.Ytdicjemjmlbmlaa.PA
open Go.RowKit Go.Proofs.YtdicjemjmlbmlaaW.PrintWords Go.Proofs.YtdicjemjmlbmlaaW.PrintLast Go.Proofs.YtdicjemjmlbmlaaW.PrintMore Go.Proofs.Ytdicjemjmlbmlaa.H
attribute [local go_sem] max2_int min2_int max_two min_two max_three min_three max_four min_four   -- for this text's walks alone
attribute [local go_sem] box_twice
set_option linter.unusedVariables false
set_option linter.unusedSimpArgs false

/-! ### gudgeonref01_Mul: function 79 -/
def gudgeonref01_Mul.f (k : Nat) (l0 : List Int) (l1 : List Int) : Option (List Int) := (gudgeonref01_Bits.f k l0).bind fun t775 => ((gudgeonref01_Bits.f k l1).bind fun t778 => ((gudgeonref01_mul.f k t775 t778).bind fun t781 => ((gudgeonref01_Limbs.f k t781).bind fun t784 => (some t784))))
set_option maxHeartbeats 8000000 in
set_option maxRecDepth 100000 in
theorem gudgeonref01_Mul.calls (k : Nat) (A0 : Option Addr) (c0 : Nat) (l0 : List Int) (A1 : Option Addr) (c1 : Nat) (l1 : List Int) (r : List Int) (w : World) (hr0 : Kd.C (Kd.int .u32) w A0 l0.length l0) (hc0 : l0.length ≤ c0) (hr1 : Kd.C (Kd.int .u32) w A1 l1.length l1) (hc1 : l1.length ≤ c1) (h : gudgeonref01_Mul.f k l0 l1 = some r) :
  Calls Try.prog 79 #[.slice A0 l0.length c0, .slice A1 l1.length c1] w fun e w' => ∃ v0_ : Value, e = .returned (v0_) ∧ Kd.R (Kd.int .u32) 81 w' w.heap.size (fun _ => True) v0_ r ∧ Below w.heap.size w w' := by
 have HR0 := Aside0.mk hr0
 have HC0 := Aside0.mk hc0
 clear hr0 hc0
 have HR1 := Aside0.mk hr1
 have HC1 := Aside0.mk hc1
 clear hr1 hc1
 have HB := Aside0.mk (Below.refl w.heap.size w)
 have H : ((gudgeonref01_Bits.f k l0).bind fun t775 => ((gudgeonref01_Bits.f k l1).bind fun t778 => ((gudgeonref01_mul.f k t775 t778).bind fun t781 => ((gudgeonref01_Limbs.f k t781).bind fun t784 => (some t784))))) = some r := h
 clear h
 obtain ⟨t775, A30, H⟩ := Option.bind_eq_some_iff.mp H
 try dsimp only at H
 have A3 := Aside0.mk A30
 clear A30
 obtain ⟨t778, A40, H⟩ := Option.bind_eq_some_iff.mp H
 try dsimp only at H
 have A4 := Aside0.mk A40
 clear A40
 obtain ⟨t781, A50, H⟩ := Option.bind_eq_some_iff.mp H
 try dsimp only at H
 have A5 := Aside0.mk A50
 clear A50
 obtain ⟨t784, A60, H⟩ := Option.bind_eq_some_iff.mp H
 try dsimp only at H
 have A6 := Aside0.mk A60
 clear A60
 obtain rfl := Option.some.inj H
 go_enter Try.func79, Try.ntmps79
 go_wp2_with (first | ((with_reducible refine gate_callee (f := 86) rfl ?_); refine goL (some 6) Try.func86 [.slice A0 l0.length c0] ?_; (with_reducible refine (gudgeonref01_Bits.calls k _ _ l0 t775 _ ?side1 ?side2 A3.out).mono ?_); (case side1 => exact HR0.out); (case side2 => exact HC0.out); rintro e w7 ⟨v776, rfl, ho0, hb⟩; refine ⟨_, rfl, ?_⟩; have HO777 := Aside0.mk (Kd.R_lower ho0 (below_size HB.out)); replace HB := Aside0.mk (below_step HB.out hb)) | ((with_reducible refine gate_callee (f := 86) rfl ?_); refine goL (some 8) Try.func86 [.slice A1 l1.length c1] ?_; (with_reducible refine (gudgeonref01_Bits.calls k _ _ l1 t778 _ ?side1 ?side2 A4.out).mono ?_); (case side1 => exact (Kd.C_below HR1.out HB.out)); (case side2 => exact HC1.out); rintro e w8 ⟨v779, rfl, ho0, hb⟩; refine ⟨_, rfl, ?_⟩; have HO780 := Aside0.mk (Kd.R_lower (Kd.R_new' ho0 (Kd.R_lt HO777.out)) (below_size HB.out)); replace HO777 := Aside0.mk (Kd.R_elder' HO777.out (Kd.R_base ho0) hb); replace HB := Aside0.mk (below_step HB.out hb); obtain ⟨Ao9, co9, eo9⟩ := Kd.R_slice HO777.out; subst eo9; obtain ⟨Ao10, co10, eo10⟩ := Kd.R_slice HO780.out; subst eo10) | ((with_reducible refine gate_callee (f := 97) rfl ?_); refine goL (some 9) Try.func97 [.slice Ao9 t775.length co9, .slice Ao10 t778.length co10] ?_; (with_reducible refine (gudgeonref01_mul.calls k _ _ t775 _ _ t778 t781 _ ?side1 ?side2 ?side3 ?side4 A5.out).mono ?_); (case side1 => exact (Kd.R_reads' HO777.out).2.2); (case side2 => exact (Kd.R_reads' HO777.out).2.1); (case side3 => exact (Kd.R_reads' HO780.out).2.2); (case side4 => exact (Kd.R_reads' HO780.out).2.1); rintro e w11 ⟨v782, rfl, ho0, hb⟩; refine ⟨_, rfl, ?_⟩; have HO783 := Aside0.mk (Kd.R_lower (Kd.R_new' (Kd.R_new' ho0 (Kd.R_lt HO777.out)) (Kd.R_lt HO780.out)) (below_size HB.out)); replace HB := Aside0.mk (below_step HB.out hb); obtain ⟨Ao12, co12, eo12⟩ := Kd.R_slice HO783.out; subst eo12) | ((with_reducible refine gate_callee (f := 88) rfl ?_); refine goL (some 10) Try.func88 [.slice Ao12 t781.length co12] ?_; (with_reducible refine (gudgeonref01_Limbs.calls k _ _ t781 t784 _ ?side1 ?side2 A6.out).mono ?_); (case side1 => exact (Kd.R_reads' HO783.out).2.2); (case side2 => exact (Kd.R_reads' HO783.out).2.1); rintro e w13 ⟨v785, rfl, ho0, hb⟩; refine ⟨_, rfl, ?_⟩; have HO786 := Aside0.mk (Kd.R_lower ho0 (below_size HB.out)); replace HB := Aside0.mk (below_step HB.out hb)))
 go_ret
 exact ⟨_, rfl, HO786.out, HB.out⟩

/-! ### gudgeonref02_Mul: function 56 -/
def gudgeonref02_Mul.f (k : Nat) (a0_0 : Bool) (l0_1 : List Int) (a1_0 : Bool) (l1_1 : List Int) : Option (Bool × List Int) := (gudgeonref01_Mul.f k l0_1 l1_1).bind fun t790 => ((gudgeonref02_Norm.f k (a0_0 != a1_0) t790).bind fun bt793 => (some (bt793.1, bt793.2)))
def gudgeonref02_Mul.T1 : Bool × List (List Nat × List Nat) := (true, [([], []), ([0], [0]), ([], []), ([2], [2]), ([1, 3], [1, 3]), ([], []), ([5], [5]), ([], []), ([7], [7]), ([6, 8], [6, 8]), ([4, 9], [4, 9]), ([10, 9], [10]), ([11, 11, 0, 1, 2, 3, 4, 5, 6, 7, 8, 9, 10, 11], [11])])
def gudgeonref02_Mul.B1 : List Nat := [0, 1, 0, 4, 15, 0, 32, 0, 128, 480, 1023, 2047, 4095]
theorem gudgeonref02_Mul.tab1 : rtab .any (opsOf Try.f56 1) = gudgeonref02_Mul.T1 := by kernel_rfl
theorem gudgeonref02_Mul.bits1 : waitsOk gudgeonref02_Mul.T1.2 gudgeonref02_Mul.B1 = true := by kernel_rfl
set_option maxHeartbeats 8000000 in
set_option maxRecDepth 100000 in
theorem gudgeonref02_Mul.calls (k : Nat) (a0_0 : Bool) (A0_1 : Option Addr) (c0_1 : Nat) (l0_1 : List Int) (a1_0 : Bool) (A1_1 : Option Addr) (c1_1 : Nat) (l1_1 : List Int) (r1 : Bool) (r2 : List Int) (w : World) (hr0_1 : Kd.C (Kd.int .u32) w A0_1 l0_1.length l0_1) (hc0_1 : l0_1.length ≤ c0_1) (hr1_1 : Kd.C (Kd.int .u32) w A1_1 l1_1.length l1_1) (hc1_1 : l1_1.length ≤ c1_1) (h : gudgeonref02_Mul.f k a0_0 l0_1 a1_0 l1_1 = some (r1, r2)) :
  Calls Try.prog 56 #[.agg #[.bool a0_0, .slice A0_1 l0_1.length c0_1], .agg #[.bool a1_0, .slice A1_1 l1_1.length c1_1]] w fun e w' => ∃ v1_ : Value, e = .returned (.agg #[.bool r1, v1_]) ∧ Kd.R (Kd.int .u32) 81 w' w.heap.size (fun _ => True) v1_ r2 ∧ Below w.heap.size w w' := by
 have hu24 := Try.underlying24
 have HR0_1 := Aside0.mk hr0_1
 have HC0_1 := Aside0.mk hc0_1
 clear hr0_1 hc0_1
 have HR1_1 := Aside0.mk hr1_1
 have HC1_1 := Aside0.mk hc1_1
 clear hr1_1 hc1_1
 have HB := Aside0.mk (Below.refl w.heap.size w)
 have H : ((gudgeonref01_Mul.f k l0_1 l1_1).bind fun t790 => ((gudgeonref02_Norm.f k (a0_0 != a1_0) t790).bind fun bt793 => (some (bt793.1, bt793.2)))) = some (r1, r2) := h
 clear h
 obtain ⟨t790, A30, H⟩ := Option.bind_eq_some_iff.mp H
 try dsimp only at H
 have A3 := Aside0.mk A30
 clear A30
 obtain ⟨⟨t793, t794⟩, A40, H⟩ := Option.bind_eq_some_iff.mp H
 try dsimp only at H
 have A4 := Aside0.mk A40
 clear A40
 simp only [Option.some.injEq, Prod.mk.injEq] at H
 obtain ⟨rfl, rfl⟩ := H
 go_enter Try.func56, Try.ntmps56
 try go_wp2_with (first | ((with_reducible refine gate_dst (N := 2) rfl ?_); refine box_event ?hg (N := 2) ?hd (cs := #[.bool a0_0, .slice A0_1 l0_1.length c0_1]) (t := 24) ?hr ?_; (case hd => rfl); (case hg => rfl); (case hr => first | (go_simp; done) | (go_simp; rfl)); intro gb787 hg w5 hbox hb; have BK787 := Aside0.mk (hbox); have GW787 := Aside0.mk (bxLe HB.out hg); have GE787 := GW787; replace HB := Aside0.mk (below_step HB.out hb); clear hb hbox hg) | ((with_reducible refine gate_dst (N := 3) rfl ?_); refine box_event ?hg (N := 3) ?hd (cs := #[.bool a1_0, .slice A1_1 l1_1.length c1_1]) (t := 24) ?hr ?_; (case hd => rfl); (case hg => rfl); (case hr => first | (go_simp; done) | (go_simp; rfl)); intro gb788 hg w6 hbox hb; have BK788 := Aside0.mk (hbox); have GW788 := Aside0.mk (bxLe HB.out hg); have GE788 := GW788; replace HB := Aside0.mk (below_step HB.out hb); have NB787_788 := Aside0.mk (neL BK787.out hg); have NB788_787 := Aside0.mk (neR BK787.out hg); replace BK787 := Aside0.mk (blk_below BK787.out hb); clear hb hbox hg) | ((with_reducible refine gate_dst (N := 4) rfl ?_); refine box_event ?hg (N := 4) ?hd (cs := #[.bool false, .slice none 0 0]) (t := 24) ?hr ?_; (case hd => rfl); (case hg => rfl); (case hr => first | (go_simp; done) | (go_simp; rfl)); intro gb789 hg w7 hbox hb; have BK789 := Aside0.mk (hbox); have GW789 := Aside0.mk (bxLe HB.out hg); have GE789 := GW789; replace HB := Aside0.mk (below_step HB.out hb); have NB787_789 := Aside0.mk (neL BK787.out hg); have NB789_787 := Aside0.mk (neR BK787.out hg); replace BK787 := Aside0.mk (blk_below BK787.out hb); have NB788_789 := Aside0.mk (neL BK788.out hg); have NB789_788 := Aside0.mk (neR BK788.out hg); replace BK788 := Aside0.mk (blk_below BK788.out hb); clear hb hbox hg))
 replace BK787 := Aside0.mk (blk_drew BK787.out)
 replace BK788 := Aside0.mk (blk_drew BK788.out)
 replace BK789 := Aside0.mk (blk_drew BK789.out)
 replace HB := Aside0.mk (below_drew1 HB.out)
 refine start_ (n := 13) (S := fun w' => w'.cell? ⟨gb787, 0, none⟩ = some (.bool a0_0) ∧ w'.cell? ⟨gb787, 1, none⟩ = some (.slice A0_1 l0_1.length c0_1) ∧ w'.cell? ⟨gb788, 0, none⟩ = some (.bool a1_0) ∧ w'.cell? ⟨gb788, 1, none⟩ = some (.slice A1_1 l1_1.length c1_1)) (ds := []) #[false, false, false, false, false, false, false, false, false, false, false, false, false] (by kernel_rfl) rfl rfl ⟨bc0 BK787.out, bc1 BK787.out, bc0 BK788.out, bc1 BK788.out⟩ (fun hHeld => ?_); refine with_tabW gudgeonref02_Mul.tab1 gudgeonref02_Mul.bits1 (fun HT_ HW_ => ?_)
 generalize w7.drew = w8 at BK787 BK788 BK789 HB hHeld ⊢
 refine pure_ (i := 0) (N := some 5) (v := ?_) (a' := ?_) #[true, false, false, false, false, false, false, false, false, false, false, false, false] rfl rfl (any_of HT_.out (by kernel_rfl)) (fun _ _ _ h => h) (Or.inl ⟨by rfl, ?_⟩) ?_ ?_
 rotate_left
 ·intro w'
  go_simp
  with_reducible rfl
 rotate_left
 ·simp only [Act.put, List.setIfInBounds_toArray, List.set_cons_zero, List.set_cons_succ, i64_w, i32_w]
  rfl
 refine pure_ (i := 2) (N := some 7) (v := ?_) (a' := ?_) #[true, false, true, false, false, false, false, false, false, false, false, false, false] rfl rfl (any_of HT_.out (by kernel_rfl)) (fun _ _ _ h => h) (Or.inl ⟨by rfl, ?_⟩) ?_ ?_
 rotate_left
 ·intro w'
  go_simp
  with_reducible rfl
 rotate_left
 ·simp only [Act.put, List.setIfInBounds_toArray, List.set_cons_zero, List.set_cons_succ, i64_w, i32_w]
  rfl
 refine pure_ (i := 5) (N := some 10) (v := ?_) (a' := ?_) #[true, false, true, false, false, true, false, false, false, false, false, false, false] rfl rfl (any_of HT_.out (by kernel_rfl)) (fun _ _ _ h => h) (Or.inl ⟨by rfl, ?_⟩) ?_ ?_
 rotate_left
 ·intro w'
  go_simp
  with_reducible rfl
 rotate_left
 ·simp only [Act.put, List.setIfInBounds_toArray, List.set_cons_zero, List.set_cons_succ, i64_w, i32_w]
  rfl
 refine pure_ (i := 7) (N := some 12) (v := ?_) (a' := ?_) #[true, false, true, false, false, true, false, true, false, false, false, false, false] rfl rfl (any_of HT_.out (by kernel_rfl)) (fun _ _ _ h => h) (Or.inl ⟨by rfl, ?_⟩) ?_ ?_
 rotate_left
 ·intro w'
  go_simp
  with_reducible rfl
 rotate_left
 ·simp only [Act.put, List.setIfInBounds_toArray, List.set_cons_zero, List.set_cons_succ, i64_w, i32_w]
  rfl
 refine take_ (i := 1) (N := some 6) (v := ?_) (a' := ?_) #[true, true, true, false, false, true, false, true, false, false, false, false, false] rfl rfl (take_ofW HT_.out HW_.out (by kernel_rfl)) (fun _ _ _ h => h) (Or.inl ⟨by rfl, ?_⟩) hHeld ?_ ?_
 rotate_left
 ·rintro w' ⟨s0, s1, s2, s3⟩
  go_simp
  with_reducible rfl
 rotate_left
 ·simp only [Act.put, List.setIfInBounds_toArray, List.set_cons_zero, List.set_cons_succ, i64_w, i32_w]
  rfl
 refine take_ (i := 3) (N := some 8) (v := ?_) (a' := ?_) #[true, true, true, true, false, true, false, true, false, false, false, false, false] rfl rfl (take_ofW HT_.out HW_.out (by kernel_rfl)) (fun _ _ _ h => h) (Or.inl ⟨by rfl, ?_⟩) hHeld ?_ ?_
 rotate_left
 ·rintro w' ⟨s0, s1, s2, s3⟩
  go_simp
  with_reducible rfl
 rotate_left
 ·simp only [Act.put, List.setIfInBounds_toArray, List.set_cons_zero, List.set_cons_succ, i64_w, i32_w]
  rfl
 refine pure_ (i := 4) (N := some 9) (v := ?_) (a' := ?_) #[true, true, true, true, true, true, false, true, false, false, false, false, false] rfl rfl (any_of HT_.out (by kernel_rfl)) (fun _ _ _ h => h) (Or.inl ⟨by rfl, ?_⟩) ?_ ?_
 rotate_left
 ·intro w'
  go_simp
  with_reducible rfl
 rotate_left
 ·simp only [Act.put, List.setIfInBounds_toArray, List.set_cons_zero, List.set_cons_succ, i64_w, i32_w]
  rfl
 refine take_ (i := 6) (N := some 11) (v := ?_) (a' := ?_) #[true, true, true, true, true, true, true, true, false, false, false, false, false] rfl rfl (take_ofW HT_.out HW_.out (by kernel_rfl)) (fun _ _ _ h => h) (Or.inl ⟨by rfl, ?_⟩) hHeld ?_ ?_
 rotate_left
 ·rintro w' ⟨s0, s1, s2, s3⟩
  go_simp
  with_reducible rfl
 rotate_left
 ·simp only [Act.put, List.setIfInBounds_toArray, List.set_cons_zero, List.set_cons_succ, i64_w, i32_w]
  rfl
 refine take_ (i := 8) (N := some 13) (v := ?_) (a' := ?_) #[true, true, true, true, true, true, true, true, true, false, false, false, false] rfl rfl (take_ofW HT_.out HW_.out (by kernel_rfl)) (fun _ _ _ h => h) (Or.inl ⟨by rfl, ?_⟩) hHeld ?_ ?_
 rotate_left
 ·rintro w' ⟨s0, s1, s2, s3⟩
  go_simp
  with_reducible rfl
 rotate_left
 ·simp only [Act.put, List.setIfInBounds_toArray, List.set_cons_zero, List.set_cons_succ, i64_w, i32_w]
  rfl
 refine one_ (i := 9) (N := some 14) #[true, true, true, true, true, true, true, true, true, true, false, false, false] rfl rfl (one_of HT_.out (by kernel_rfl)) (by decide) (fun K hK => ?_)
 refine goR Try.func79 [.slice A0_1 l0_1.length c0_1, .slice A1_1 l1_1.length c1_1] ?_
 with_reducible refine (gudgeonref01_Mul.calls k _ _ l0_1 _ _ l1_1 t790 _ ?side1 ?side2 ?side3 ?side4 A3.out).mono ?_
 (case side1 => exact (Kd.C_below HR0_1.out HB.out))
 (case side2 => exact HC0_1.out)
 (case side3 => exact (Kd.C_below HR1_1.out HB.out))
 (case side4 => exact HC1_1.out)
 rintro e w9 ⟨v791, rfl, ho0, hb⟩
 refine ⟨_, rfl, ?_⟩
 have HO792 := Aside0.mk (Kd.R_lower ho0 (below_size HB.out))
 replace BK787 := Aside0.mk (blk_below BK787.out hb)
 replace BK788 := Aside0.mk (blk_below BK788.out hb)
 replace BK789 := Aside0.mk (blk_below BK789.out hb)
 replace HB := Aside0.mk (below_step HB.out hb)
 (try clear hb)
 (try clear hb2)
 (try clear hk)
 (try clear hi)
 (try clear ho0)
 obtain ⟨Ao10, co10, eo10⟩ := Kd.R_slice HO792.out
 subst eo10
 refine hK.out _ _ ⟨bc0 BK787.out, bc1 BK787.out, bc0 BK788.out, bc1 BK788.out⟩ (fun hHeld => ?_)
 clear hK K
 refine norm_ (a' := ?_) ?_ ?_
 rotate_left
 ·show Act.put _ (some 14) _ = _
  simp only [Act.put, List.setIfInBounds_toArray, List.set_cons_zero, List.set_cons_succ, i64_w, i32_w]
  rfl
 refine pure_ (i := 10) (N := some 15) (v := ?_) (a' := ?_) #[true, true, true, true, true, true, true, true, true, true, true, false, false] rfl rfl (any_of HT_.out (by kernel_rfl)) (fun _ _ _ h => h) (Or.inl ⟨by rfl, ?_⟩) ?_ ?_
 rotate_left
 ·intro w'
  go_simp
  with_reducible rfl
 rotate_left
 ·simp only [Act.put, List.setIfInBounds_toArray, List.set_cons_zero, List.set_cons_succ, i64_w, i32_w]
  rfl
 refine one_ (i := 11) (N := some 16) #[true, true, true, true, true, true, true, true, true, true, true, true, false] rfl rfl (one_of HT_.out (by kernel_rfl)) (by decide) (fun K hK => ?_)
 refine goR Try.func54 [.agg #[.bool (a0_0 != a1_0), .slice Ao10 t790.length co10]] ?_
 with_reducible refine (gudgeonref02_Norm.calls k (a0_0 != a1_0) _ _ t790 t793 t794 _ ?side1 ?side2 A4.out).mono ?_
 (case side1 => exact (Kd.R_reads' HO792.out).2.2)
 (case side2 => exact (Kd.R_reads' HO792.out).2.1)
 rintro e w11 ⟨v795, rfl, ho0, hb⟩
 refine ⟨_, rfl, ?_⟩
 have HO796 := Aside0.mk (Kd.R_lower (Kd.R_new' ho0 (Kd.R_lt HO792.out)) (below_size HB.out))
 replace BK787 := Aside0.mk (blk_below BK787.out hb)
 replace BK788 := Aside0.mk (blk_below BK788.out hb)
 replace BK789 := Aside0.mk (blk_below BK789.out hb)
 replace HB := Aside0.mk (below_step HB.out hb)
 (try clear hb)
 (try clear hb2)
 (try clear hk)
 (try clear hi)
 (try clear ho0)
 obtain ⟨Ao13, co13, eo13⟩ := Kd.R_slice HO796.out
 subst eo13
 refine hK.out _ _ ⟨bc0 BK787.out, bc1 BK787.out, bc0 BK788.out, bc1 BK788.out⟩ (fun hHeld => ?_)
 clear hK K
 refine norm_ (a' := ?_) ?_ ?_
 rotate_left
 ·show Act.put _ (some 16) _ = _
  simp only [Act.put, List.setIfInBounds_toArray, List.set_cons_zero, List.set_cons_succ, i64_w, i32_w]
  rfl
 refine one_ (i := 12) (N := none) #[true, true, true, true, true, true, true, true, true, true, true, true, true] rfl rfl (one_of HT_.out (by kernel_rfl)) (by decide) (fun K hK => ?_)
 have hs12 : w11.cell? ⟨gb789, 0, none⟩ = some (.bool false) := bc0 BK789.out
 have hfs12 := blk_frozen BK789.out 0
 have hns12_0 := NB787_789.out
 have hns12_1 := NB788_789.out
 have hms12_0 := NB789_787.out
 have hms12_1 := NB789_788.out
 have hs14 : w11.cell? ⟨gb789, 1, none⟩ = some (.slice none 0 0) := bc1 BK789.out
 have hfs14 := blk_frozen BK789.out 1
 have hns14_0 := NB787_789.out
 have hns14_1 := NB788_789.out
 have hms14_0 := NB789_787.out
 have hms14_1 := NB789_788.out
 refine skip_ (w1 := ?_) (by rfl) rfl ?_ ?_
 rotate_left
 ·go_simp
  rfl
 refine hK.out _ _ ⟨((cell_far (p := ⟨gb789, _, none⟩) NB787_789.out _).trans (((cell_far (p := ⟨gb789, _, none⟩) NB787_789.out _).trans (hHeld.1)))), ((cell_far (p := ⟨gb789, _, none⟩) NB787_789.out _).trans (((cell_far (p := ⟨gb789, _, none⟩) NB787_789.out _).trans (hHeld.2.1)))), ((cell_far (p := ⟨gb789, _, none⟩) NB788_789.out _).trans (((cell_far (p := ⟨gb789, _, none⟩) NB788_789.out _).trans (hHeld.2.2.1)))), ((cell_far (p := ⟨gb789, _, none⟩) NB788_789.out _).trans (((cell_far (p := ⟨gb789, _, none⟩) NB788_789.out _).trans (hHeld.2.2.2))))⟩ (fun hHeld => ?_)
 clear hK K
 refine done_ (done_of HT_.out (by kernel_rfl)) ?_
 try go_wp2
 refine bodyPost_ret (results_cell_row rfl _ _ gb789 24 #[.bool t793, .slice Ao13 t794.length co13] (0, 0) _ rfl (by refine blk_put (cs := #[.bool t793, .slice none 0 0]) ?_ 1 _ rfl; refine blk_put (cs := #[.bool false, .slice none 0 0]) ?_ 0 _ rfl; exact BK789.out) Try.underlying24 rfl (by kernel_rfl)) rfl ?_
 exact ⟨_, rfl, Kd.R_mono (Kd.R_far (p := ⟨gb789, 1, none⟩) (Kd.R_far (p := ⟨gb789, 0, none⟩) (Kd.R_types HO796.out BK789.out (by decide)) (fun _ hk => hk.2) (.bool t793)) (fun _ hk => hk.2) (.slice Ao13 t794.length co13)) (fun _ hk => trivial), by repeat first | exact HB.out | refine bxSet ?_ (by assumption) | apply below_alloc | apply pw_below_drewN⟩

end Go.Proofs.Ytdicjemjmlbmlaa.PA
/- The reference's differences, products, and numbers by limbs again; its sums of limbs. -/
namespace Go.Proofs.Ytdicjemjmlbmlaa.V
set_option linter.unusedVariables false
set_option linter.unusedSimpArgs false
open Go.RowKit Go.Proofs.Ytdicjemjmlbmlaa.PA Go.Proofs.Ytdicjemjmlbmlaa.H Go.Proofs.YtdicjemjmlbmlaaW.PrintWords Go.Proofs.YtdicjemjmlbmlaaW.PrintLast Go.Proofs.YtdicjemjmlbmlaaW.PrintMore

/-! ### differences -/
theorem step_bsub {V P c A B x y q r : Int} (h : V - P * c = A - B) (e : r - 2 * q = x - y - c) : V + P * r - (2 * P) * q = A + P * x - (B + P * y) := by grind
theorem bsub_j1 (a b out : List Bool) (c : Bool) (i : Nat) (x : Bool) (n : Int) (hn : n = b2i x) (ho : out.length ≤ 2000000000) (hi : i ≤ 2000000000) (r : List Bool)
    (h : Ev (fun k => gudgeonref01_sub.l0 k a b (out ++ [decide ((b2i x - b2i (b.getD i false) - b2i c) % 2 = 1)]) (decide (b2i x - b2i (b.getD i false) - b2i c < 0)) ((i + 1 : Nat) : Int)) r) : Ev (fun k => gudgeonref01_sub.j1 k a b out c (i : Int) n) r := by
  subst hn
  refine Ev.step (fun k => ?_) h
  simp only [gudgeonref01_sub.j1]
  rw [at_ev, Option.bind_some]
  have hlim : out.length < 140737488355328 := by omega
  cases b.getD i false <;> cases x <;> cases c <;> simp only [b2i, if_true, Bool.false_eq_true, if_false] <;> rw [w64 (x := (i : Int) + 1) (by omega) (by omega)] <;> simp [wm1, wm2, wm0, w01, hlim]
theorem bsub_l0 (a b : List Bool) (ha : LB a) (hb : LB b) (hab : bval b ≤ bval a) (d : Nat) : ∀ (i : Nat) (out : List Bool) (c : Bool), i + d = a.length → out.length = i → bval out - p2 i * b2i c = bval (a.take i) - bval (b.take i) →
    Ev (fun k => gudgeonref01_sub.l0 k a b out c (i : Int)) (bits (bval a - bval b)) := by
  unfold LB at ha hb
  induction d with
  | zero =>
    intro i out c hi ho hv
    obtain rfl : i = a.length := by omega
    rw [List.take_of_length_le (Nat.le_refl _)] at hv
    have hbt : bval (b.take a.length) = bval b := by
      by_cases hl : b.length ≤ a.length
      · rw [List.take_of_length_le hl]
      · have e := bval_take_drop b a.length (by omega)
        have h1 := bval_lt a
        have h2 := bval_nonneg (b.take a.length)
        have h3 := bval_nonneg (b.drop a.length)
        have h4 := p2_pos a.length
        by_cases hz : bval (b.drop a.length) = 0
        · rw [hz] at e; omega
        · have : p2 a.length * 1 ≤ p2 a.length * bval (b.drop a.length) := Int.mul_le_mul_of_nonneg_left (by omega) (by omega)
          omega
    rw [hbt] at hv
    have h1 := bval_lt out
    rw [ho] at h1
    have hc : c = false := by
      cases c
      · rfl
      · simp only [b2i, if_true] at hv; omega
    subst hc
    simp only [b2i, Bool.false_eq_true, if_false, Int.mul_zero, Int.sub_zero] at hv
    have ht := btrim_ev out (by omega)
    rw [hv] at ht
    refine Ev.step (fun k => ?_) (Ev.bind (f := fun _ t => some t) ht (Ev.now _))
    simp only [gudgeonref01_sub.l0]
    rw [if_neg (by omega)]
  | succ d ih =>
    intro i out c hi ho hv
    have hia : i < a.length := by omega
    have hnext := ih (i + 1) (out ++ [decide ((b2i (a.getD i false) - b2i (b.getD i false) - b2i c) % 2 = 1)]) (decide (b2i (a.getD i false) - b2i (b.getD i false) - b2i c < 0)) (by omega) (by simp [ho]) (by
      rw [bval_snoc, ho, p2_succ, bval_take_getD a, bval_take_getD b]
      apply step_bsub hv
      cases a.getD i false <;> cases b.getD i false <;> cases c <;> rfl)
    refine Ev.step (f := fun k => gudgeonref01_sub.j1 k a b out c (i : Int) (b2i (a.getD i false))) (fun k => ?_) (bsub_j1 a b out c i _ _ rfl (by omega) (by omega) _ hnext)
    simp only [gudgeonref01_sub.l0]
    rw [if_pos (by omega), if_pos (by omega), rdOf_D]
    cases a.getD i false
    · rw [if_neg (by decide)]; rfl
    · rw [if_pos rfl]; rfl
theorem bsub_ev (a b : List Bool) (ha : LB a) (hb : LB b) (hab : bval b ≤ bval a) : Ev (fun k => gudgeonref01_sub.f k a b) (bits (bval a - bval b)) :=
  Ev.congr (fun k => rfl) (bsub_l0 a b ha hb hab a.length 0 [] false (by omega) rfl (by simp [bval, b2i]))
/-! ### products -/
theorem bmul_bound {x y : Int} {m n : Nat} (h0 : 0 ≤ x) (h1 : x < p2 m) (g0 : 0 ≤ y) (g1 : y < p2 n) : x * y < p2 (m + n) := by
  rw [p2_add]
  have a1 : x * y ≤ x * p2 n := Int.mul_le_mul_of_nonneg_left (by omega) h0
  have a2 : x * p2 n < p2 m * p2 n := Int.mul_lt_mul_of_pos_right h1 (p2_pos n)
  omega
theorem bmul_l0 (a b : List Bool) (ha : a.length ≤ 400000000) (hb : b.length ≤ 400000000) (d : Nat) : ∀ (out : List Bool), d ≤ a.length → out.length ≤ (a.length - d) + b.length → bval out = bval (a.drop d) * bval b →
    Ev (fun k => gudgeonref01_mul.l0 k a b out ((d : Int) - 1)) (bits (bval a * bval b)) := by
  induction d with
  | zero =>
    intro out hd ho hv
    rw [List.drop_zero] at hv
    have ht := btrim_ev out (by omega)
    rw [hv] at ht
    refine Ev.step (fun k => ?_) (Ev.bind (f := fun _ t => some t) ht (Ev.now _))
    simp only [gudgeonref01_mul.l0]
    rw [if_neg (by omega)]
  | succ d ih =>
    intro out hd ho hv
    have hda : d < a.length := by omega
    have e0 : ((d + 1 : Nat) : Int) - 1 = (d : Int) := by omega
    have hdrop := bval_drop_getD a d
    have hv2 : bval (false :: out) = 2 * bval out := by simp [bval, b2i]
    rw [e0]
    cases hx : a.getD d false with
    | true =>
      rw [hx] at hdrop
      simp only [b2i, if_true] at hdrop
      have hadd := badd_ev (false :: out) b (by unfold LB; simp; omega) (by unfold LB; omega)
      have e1 : bval (false :: out) + bval b = bval (a.drop d) * bval b := by rw [hv2, hv, hdrop]; grind
      rw [e1] at hadd
      have hb1 := bmul_bound (bval_nonneg (a.drop d)) (bval_lt (a.drop d)) (bval_nonneg b) (bval_lt b)
      have h0 := Int.mul_nonneg (bval_nonneg (a.drop d)) (bval_nonneg b)
      have hl := bits_length_le h0 hb1
      rw [List.length_drop] at hl
      refine Ev.step (fun k => ?_) (Ev.bind (f := fun k t => gudgeonref01_mul.l0 k a b t ((d : Int) - 1)) hadd (ih _ (by omega) (by omega) (bval_bits h0)))
      simp only [gudgeonref01_mul.l0]
      rw [if_pos (by omega), Option.bind_some, if_pos (by simp; omega), Option.bind_some, if_pos (by omega), if_pos (by omega), rdOf_D, hx, if_pos rfl, w64 (by omega) (by omega)]
      rfl
    | false =>
      rw [hx] at hdrop
      simp only [b2i, Bool.false_eq_true, if_false, Int.zero_add] at hdrop
      refine Ev.step (fun k => ?_) (ih (false :: out) (by omega) (by simp; omega) (by rw [hv2, hv, hdrop]; grind))
      simp only [gudgeonref01_mul.l0]
      rw [if_pos (by omega), Option.bind_some, if_pos (by simp; omega), Option.bind_some, if_pos (by omega), if_pos (by omega), rdOf_D, hx, if_neg (by decide), w64 (by omega) (by omega)]
      rfl
theorem bmul_ev (a b : List Bool) (ha : a.length ≤ 400000000) (hb : b.length ≤ 400000000) : Ev (fun k => gudgeonref01_mul.f k a b) (bits (bval a * bval b)) := by
  refine Ev.congr (fun k => ?_) (bmul_l0 a b ha hb a.length [] (Nat.le_refl _) (by simp) (by rw [List.drop_eq_nil_of_le (Nat.le_refl _)]; simp [bval]))
  unfold gudgeonref01_mul.f
  rw [w64 (by omega) (by omega)]
/-! ### limbs -/
theorem lim_inj (a : List Int) : ∀ b, Lim a → Lim b → a.length = b.length → val a = val b → a = b := by
  induction a with
  | nil => intro b _ _ hl _; exact (List.eq_nil_of_length_eq_zero (by simpa using hl.symm)).symm
  | cons x a ih =>
    intro b ha hb hl hv
    cases b with
    | nil => simp at hl
    | cons y b =>
      have hx := ha.head
      have hy := hb.head
      simp only [val] at hv
      have e1 : x = y := by omega
      have e2 : val a = val b := by omega
      rw [e1, ih b ha.tail hb.tail (by simpa using hl) e2]
theorem getD_win (l : List Bool) (i j : Nat) (hj : j < 32) : ((l.drop i).take 32).getD j false = l.getD (i + j) false := by
  simp [List.getD_eq_getElem?_getD, List.getElem?_take, hj]
theorem Limbs_l1 (l : List Bool) (hl : l.length ≤ 1000000000) (m : Nat) (hm : m ≤ 100000000) (out : List Int) (ho : out.length ≤ 100000000) (r : List Int) (h : Ev (fun k => gudgeonref01_Limbs.l0 k l (out ++ [bval ((l.drop (32 * m)).take 32)]) ((32 * (m + 1) : Nat) : Int)) r) (j : Nat) (hj : j ≤ 32) :
    Ev (fun k => gudgeonref01_Limbs.l1 k l out ((32 * m : Nat) : Int) (bval (((l.drop (32 * m)).take 32).drop j)) (((32 * m + j : Nat) : Int) - 1)) r := by
  induction j with
  | zero =>
    rw [List.drop_zero]
    refine Ev.step (fun k => ?_) h
    simp only [gudgeonref01_Limbs.l1]
    rw [if_neg (by omega), if_pos (by omega), w64 (by omega) (by omega), show ((32 * m : Nat) : Int) + 32 = ((32 * (m + 1) : Nat) : Int) by omega]
  | succ j ih =>
    have hd := bval_drop_getD ((l.drop (32 * m)).take 32) j
    rw [getD_win l (32 * m) j (by omega)] at hd
    have h0 := bval_nonneg (((l.drop (32 * m)).take 32).drop (j + 1))
    have h1 : bval (((l.drop (32 * m)).take 32).drop (j + 1)) < p2 31 := by
      have := bval_lt (((l.drop (32 * m)).take 32).drop (j + 1))
      have h2 := p2_le (show (((l.drop (32 * m)).take 32).drop (j + 1)).length ≤ 31 by rw [List.length_drop, List.length_take]; omega)
      omega
    have e31 : p2 31 = 2147483648 := rfl
    have e0 : ((32 * m + (j + 1) : Nat) : Int) - 1 = ((32 * m + j : Nat) : Int) := by omega
    rw [e0]
    refine Ev.step (fun k => ?_) (ih (by omega))
    simp only [gudgeonref01_Limbs.l1]
    by_cases hlt : 32 * m + j < l.length
    · rw [if_pos (by omega), if_pos (by omega), if_pos (by omega), rdOf_D]
      cases hb : l.getD (32 * m + j) false with
      | true =>
        rw [hb] at hd
        simp only [b2i, if_true] at hd
        rw [if_pos rfl, w64 (by omega) (by omega), hd]
        congr 1
        omega
      | false =>
        rw [hb] at hd
        simp only [b2i, Bool.false_eq_true, if_false] at hd
        rw [if_neg (by decide), w64 (by omega) (by omega), hd]
        congr 1
        omega
    · have hb : l.getD (32 * m + j) false = false := by rw [List.getD_eq_getElem?_getD, List.getElem?_eq_none (by omega)]; rfl
      rw [hb] at hd
      simp only [b2i, Bool.false_eq_true, if_false] at hd
      rw [if_pos (by omega), if_neg (by omega), w64 (by omega) (by omega), hd]
      congr 1
      omega
theorem Limbs_l0 (x : Int) (h0 : 0 ≤ x) (hl : (bits x).length ≤ 1000000000) (d : Nat) : ∀ (m : Nat) (out : List Int), d + 32 * m = (bits x).length + 32 ∨ ((bits x).length ≤ 32 * m ∧ 32 * m < (bits x).length + 32) → d ≤ (bits x).length + 32 → 32 * m < (bits x).length + 32 → out.length = m → Lim out → val out = bval ((bits x).take (32 * m)) → Ev (fun k => gudgeonref01_Limbs.l0 k (bits x) out ((32 * m : Nat) : Int)) (dig x) := by
  induction d using Nat.strongRecOn with
  | _ d ih =>
    intro m out hd hd2 hm ho hL hv
    by_cases hend : (bits x).length ≤ 32 * m
    · rw [List.take_of_length_le hend, bval_bits h0] at hv
      have e : out = dig x := by
        refine lim_inj _ _ hL (dig_lim _) ?_ (by rw [hv, val_dig h0])
        have hlt : x < pw m := by
          rw [pw_p2]
          exact lt_of_bits_length h0 hend
        have h1 := dig_length_le h0 hlt
        by_cases h2 : m ≤ (dig x).length
        · omega
        · have h3 : x < pw (m - 1) := lt_of_dig_length h0 (by omega)
          rw [pw_p2] at h3
          have h4 := bits_length_le h0 h3
          omega
      refine Ev.step (f := fun _ => some _) (fun k => ?_) (Ev.now _)
      simp only [gudgeonref01_Limbs.l0]
      rw [if_neg (by omega), e]
    · have hwl : ((bits x).take (32 * m)).length = 32 * m := by rw [List.length_take]; omega
      have hW : bval (((bits x).drop (32 * m)).take 32) < 4294967296 := by
        have h1 := bval_lt (((bits x).drop (32 * m)).take 32)
        have h2 := p2_le (show (((bits x).drop (32 * m)).take 32).length ≤ 32 by rw [List.length_take]; omega)
        have e : p2 32 = 4294967296 := rfl
        omega
      have hW0 := bval_nonneg (((bits x).drop (32 * m)).take 32)
      have hnext := ih (d - 32) (by omega) (m + 1) (out ++ [bval (((bits x).drop (32 * m)).take 32)]) (by omega) (by omega) (by omega) (by simp [ho]) (hL.append (Lim.cons hW0 hW Lim.nil)) (by
        rw [val_append, ho, hv, show val [bval (((bits x).drop (32 * m)).take 32)] = bval (((bits x).drop (32 * m)).take 32) by simp [val], show 32 * (m + 1) = 32 * m + 32 by omega, List.take_add, bval_append, hwl, pw_p2])
      have h1 := Limbs_l1 (bits x) hl m (by omega) out (by omega) _ hnext 32 (Nat.le_refl _)
      rw [List.drop_eq_nil_of_le (by rw [List.length_take]; omega)] at h1
      refine Ev.step (fun k => ?_) h1
      simp only [gudgeonref01_Limbs.l0]
      rw [if_pos (by omega), w64 (by omega) (by omega), show ((32 * m : Nat) : Int) + 31 = ((32 * m + 32 : Nat) : Int) - 1 by omega]
      rfl
theorem bits_bits (x : Int) (h0 : 0 ≤ x) : bits (bval (bits x)) = bits x := by rw [bval_bits h0]
theorem Limbs_ev (x : Int) (h0 : 0 ≤ x) (hl : (bits x).length ≤ 1000000000) : Ev (fun k => gudgeonref01_Limbs.f k (bits x)) (dig x) := by
  have ht := btrim_ev (bits x) (by omega)
  rw [bits_bits x h0] at ht
  have := Limbs_l0 x h0 hl ((bits x).length + 32) 0 [] (by omega) (by omega) (by omega) rfl Lim.nil (by simp [val, bval])
  exact Ev.congr (fun k => rfl) (Ev.bind ht this)
/-! ### the reference's functions of limbs -/
def SZ (l : List Int) : Prop := l.length ≤ 10000
theorem bits_len_of (l : List Int) (hL : Lim l) (hs : SZ l) : (bits (val l)).length ≤ 320000 := by
  have h := val_lt hL
  rw [pw_p2] at h
  have := bits_length_le (val_nonneg hL) h
  unfold SZ at hs
  omega
theorem refNorm_ev (l : List Int) (hL : Lim l) (hs : SZ l) : Ev (fun k => gudgeonref01_Norm.f k l) (dig (val l)) := by
  have h1 := bits_len_of l hL hs
  have hs' := hs
  unfold SZ at hs'
  exact Ev.congr (fun k => rfl) (Ev.bind (Bits_ev l hL (by omega)) (Ev.bind (f := fun _ t => some t) (Limbs_ev _ (val_nonneg hL) (by omega)) (Ev.now _)))
theorem refAdd_ev (a b : List Int) (ha : Lim a) (hb : Lim b) (sa : SZ a) (sb : SZ b) : Ev (fun k => gudgeonref01_Add.f k a b) (dig (val a + val b)) := by
  have h1 := bits_len_of a ha sa
  have h2 := bits_len_of b hb sb
  have va := val_nonneg ha
  have vb := val_nonneg hb
  have sa' := sa
  have sb' := sb
  unfold SZ at sa' sb'
  have hadd := badd_ev (bits (val a)) (bits (val b)) (by unfold LB; omega) (by unfold LB; omega)
  rw [bval_bits va, bval_bits vb] at hadd
  have hl : (bits (val a + val b)).length ≤ 320001 := by
    have e1 := lt_of_bits_length va h1
    have e2 := lt_of_bits_length vb h2
    exact bits_length_le (by omega) (by rw [p2_succ]; omega)
  exact Ev.congr (fun k => rfl) (Ev.bind (Bits_ev a ha (by omega)) (Ev.bind (Bits_ev b hb (by omega)) (Ev.bind hadd (Ev.bind (f := fun _ t => some t) (Limbs_ev _ (by omega) (by omega)) (Ev.now _)))))
theorem refMul_ev (a b : List Int) (ha : Lim a) (hb : Lim b) (sa : SZ a) (sb : SZ b) : Ev (fun k => gudgeonref01_Mul.f k a b) (dig (val a * val b)) := by
  have h1 := bits_len_of a ha sa
  have h2 := bits_len_of b hb sb
  have va := val_nonneg ha
  have vb := val_nonneg hb
  have sa' := sa
  have sb' := sb
  unfold SZ at sa' sb'
  have hmul := bmul_ev (bits (val a)) (bits (val b)) (by omega) (by omega)
  rw [bval_bits va, bval_bits vb] at hmul
  have h0 := Int.mul_nonneg va vb
  have hl := bits_length_le h0 (bmul_bound va (lt_of_bits_length va h1) vb (lt_of_bits_length vb h2))
  exact Ev.congr (fun k => rfl) (Ev.bind (Bits_ev a ha (by omega)) (Ev.bind (Bits_ev b hb (by omega)) (Ev.bind hmul (Ev.bind (f := fun _ t => some t) (Limbs_ev _ h0 (by omega)) (Ev.now _)))))
theorem refSub_ev (a b : List Int) (ha : Lim a) (hb : Lim b) (sa : SZ a) (sb : SZ b) : Ev (fun k => gudgeonref01_Sub.f k a b) (if val a < val b then ([], 6) else (dig (val a - val b), 0)) := by
  have h1 := bits_len_of a ha sa
  have h2 := bits_len_of b hb sb
  have va := val_nonneg ha
  have vb := val_nonneg hb
  have sa' := sa
  have sb' := sb
  unfold SZ at sa' sb'
  have hc := bcmp_ev (bits (val a)) (bits (val b)) (by unfold LB; omega) (by unfold LB; omega)
  rw [bval_bits va, bval_bits vb] at hc
  refine Ev.congr (fun k => rfl) (Ev.bind (Bits_ev a ha (by omega)) (Ev.bind (Bits_ev b hb (by omega)) (Ev.bind hc ?_)))
  by_cases hlt : val a < val b
  · refine Ev.congr (f := fun _ => some _) (fun k => ?_) (Ev.now _)
    unfold cmpI
    rw [if_pos hlt, if_pos hlt, if_pos (by decide)]
  · have hs := bsub_ev (bits (val a)) (bits (val b)) (by unfold LB; omega) (by unfold LB; omega) (by rw [bval_bits va, bval_bits vb]; omega)
    rw [bval_bits va, bval_bits vb] at hs
    have hl : (bits (val a - val b)).length ≤ 320000 := bits_length_le (by omega) (by have := lt_of_bits_length va h1; omega)
    rw [if_neg hlt]
    refine Ev.congr (fun k => by
      unfold cmpI
      rw [if_neg hlt, if_neg (by split <;> decide)]) (Ev.bind hs (Ev.bind (f := fun _ t => some (t, (0 : Int))) (Limbs_ev (val a - val b) (by omega) (by omega)) (Ev.now _)))
end Go.Proofs.Ytdicjemjmlbmlaa.V
/- What the reference's sums and products of whole are, as numbers (WhoC's, for a seat without the laws of whole). -/
namespace Go.Proofs.Ytdicjemjmlbmlaa.S
set_option linter.unusedVariables false
set_option linter.unusedSimpArgs false
open Go.RowKit Go.Proofs.Ytdicjemjmlbmlaa.V Go.Proofs.Ytdicjemjmlbmlaa.PA Go.Proofs.Ytdicjemjmlbmlaa.H Go.Proofs.YtdicjemjmlbmlaaW.PrintWords Go.Proofs.YtdicjemjmlbmlaaW.PrintLast Go.Proofs.YtdicjemjmlbmlaaW.PrintMore

theorem rNorm_ev (b : Bool) (l : List Int) (h : Lim l) (hs : SZ l) : Ev (fun k => gudgeonref02_Norm.f k b l) (W (wv b l)) := by
 have v := val_nonneg h
 refine Ev.congr (fun k => rfl) (Ev.bind (refNorm_ev l h hs) ?_)
 unfold W
 rw [az_wv b h]
 cases b with
 | true =>
  refine evP rfl (evR ?_)
  congr 1
  refine decide_eq_decide.2 ?_
  have := dig_eq_nil v
  unfold wv; rw [if_pos rfl]
  constructor
  ·intro z
   have hne : ¬ val l = 0 := fun y => by rw [this.2 y] at z; simp at z
   omega
  ·intro z
   have hne : dig (val l) ≠ [] := fun y => by have := this.1 y; omega
   have := List.length_pos_iff.2 hne
   omega
 | false =>
  refine evN (by decide) (evR ?_)
  congr 1
  unfold wv; rw [if_neg (by decide)]
  exact (decide_eq_false (by omega)).symm
theorem rAdd_ev (a b : Bool) (x y : List Int) (hx : Lim x) (hy : Lim y) (nx : x.length ≤ 4000) (ny : y.length ≤ 4000) : Ev (fun k => gudgeonref02_Add.f k a x b y) (W (wv a x + wv b y)) := by
 have vx := val_nonneg hx
 have vy := val_nonneg hy
 have dx := dig_length x hx
 have dy := dig_length y hy
 have lxy := len_add vx vy
 have sx : SZ x := Nat.le_trans nx (by decide)
 have sy : SZ y := Nat.le_trans ny (by decide)
 by_cases h : a = b
 ·subst h
  refine Ev.congr (fun k => rfl) (evP (by simp) (Ev.bind (refAdd_ev x y hx hy sx sy) (pair_ev ?_)))
  have := rNorm_ev a (dig (val x + val y)) (dig_lim _) (by unfold SZ; omega)
  rw [show wv a (dig (val x + val y)) = wv a x + wv a y by unfold wv; rw [val_dig (by omega)]; cases a <;> simp <;> omega] at this
  exact this
 ·have hb : b = !a := by cases a <;> cases b <;> simp_all
  refine Ev.congr (fun k => rfl) (evN (by simpa using h) (Ev.bind (refSub_ev x y hx hy sx sy) ?_))
  by_cases hlt : val x < val y
  ·have l1 := len_le (x := val y - val x) (y := val y) (by omega) (by omega)
   rw [if_pos hlt]
   refine evN (by decide) (Ev.bind (refSub_ev y x hy hx sy sx) (pair_ev ?_))
   rw [if_neg (by omega)]
   have := rNorm_ev b (dig (val y - val x)) (dig_lim _) (by unfold SZ; omega)
   rw [show wv b (dig (val y - val x)) = wv a x + wv b y by rw [hb]; unfold wv; rw [val_dig (by omega)]; cases a <;> simp <;> omega] at this
   exact this
  ·have l1 := len_le (x := val x - val y) (y := val x) (by omega) (by omega)
   rw [if_neg hlt]
   refine evP rfl (pair_ev ?_)
   have := rNorm_ev a (dig (val x - val y)) (dig_lim _) (by unfold SZ; omega)
   rw [show wv a (dig (val x - val y)) = wv a x + wv b y by rw [hb]; unfold wv; rw [val_dig (by omega)]; cases a <;> simp <;> omega] at this
   exact this
theorem rMul_ev (a b : Bool) (x y : List Int) (hx : Lim x) (hy : Lim y) (nx : x.length ≤ 4000) (ny : y.length ≤ 4000) : Ev (fun k => gudgeonref02_Mul.f k a x b y) (W (wv a x * wv b y)) := by
 have vx := val_nonneg hx
 have vy := val_nonneg hy
 have dx := dig_length x hx
 have dy := dig_length y hy
 have lxy := len_mul vx vy
 refine Ev.congr (fun k => rfl) (Ev.bind (refMul_ev x y hx hy (Nat.le_trans nx (by decide)) (Nat.le_trans ny (by decide))) (pair_ev ?_))
 have := rNorm_ev (a != b) (dig (val x * val y)) (dig_lim _) (by unfold SZ; omega)
 rw [show wv (a != b) (dig (val x * val y)) = wv a x * wv b y by unfold wv; rw [val_dig (Int.mul_nonneg vx vy)]; cases a <;> cases b <;> simp [Int.neg_mul, Int.mul_neg]] at this
 exact this
end Go.Proofs.Ytdicjemjmlbmlaa.S
/- Two sums that are one are the same. -/
namespace Go.Proofs.Ytdicjemjmlbmlaa.H
set_option linter.unusedSimpArgs false
set_option linter.unusedVariables false
open Go.RowKit Go.Proofs.YtdicjemjmlbmlaaW.PrintWords Go.Proofs.YtdicjemjmlbmlaaW.PrintLast Go.Proofs.YtdicjemjmlbmlaaW.PrintMore Go.Proofs.Ytdicjemjmlbmlaa.PA Go.Proofs.Ytdicjemjmlbmlaa.V Go.Proofs.Ytdicjemjmlbmlaa.S
theorem blk_all {w : World} {g : Nat} {t : TypeId} {cs : Array Value} (h : w.heap[g]? = some (.cells cs t (0, 0))) : ∀ i, w.cell? ⟨g, i, none⟩ = cs[i]? := fun i => blk_cell h i
theorem rSame_self (b : Bool) (l : List Int) (hl : l.length ≤ 1000000) : Ev (fun k => gudgeonref02_Same.f k b l b l) true := by
  refine Ev.congr (fun k => rfl) (Ev.bind (same_self _ _ rfl (by omega)) (evP rfl (evR ?_)))
  simp
theorem q_rSame {w : World} {b : Bool} {A A' : Option Addr} {c c' : Nat} {l : List Int} (h1 : Kd.C (Kd.int .u32) w A l.length l) (s1 : l.length ≤ c) (h2 : Kd.C (Kd.int .u32) w A' l.length l) (s2 : l.length ≤ c') (hl : l.length ≤ 1000000) :
    Calls Try.prog 16 #[.agg #[.bool b, .slice A l.length c], .agg #[.bool b, .slice A' l.length c']] w fun e w' => e = .returned (.bool true) ∧ Below w.heap.size w w' := by
  obtain ⟨k, hk⟩ := (rSame_self b l hl).rounds
  exact gudgeonref02_Same.calls k b A c l b A' c' l true w h1 s1 h2 s2 hk
set_option maxHeartbeats 8000000 in
set_option maxRecDepth 100000 in
theorem q_SameE {w : World} {b : Bool} {A B A' B' : Option Addr} {c d c' d' : Nat} {l : List Int} {p : List S46} (h1 : Kd.C (Kd.int .u32) w A l.length l) (s1 : l.length ≤ c) (h2 : Kd.C k46 w B p.length p) (s2 : p.length ≤ d)
    (h3 : Kd.C (Kd.int .u32) w A' l.length l) (s3 : l.length ≤ c') (h4 : Kd.C k46 w B' p.length p) (s4 : p.length ≤ d') (hl : l.length ≤ 1000000) (hp : p.length ≤ 1000000) (hx : ∀ x ∈ p, x.f1.f1.length ≤ 1000000) :
    Calls Try.prog 15 #[.agg #[.bool b, .slice A l.length c, .slice B p.length d], .agg #[.bool b, .slice A' l.length c', .slice B' p.length d']] w fun e w' => e = .returned (.bool true) ∧ Below w.heap.size w w' := by
  have mixed : Try.prog.follows Departure.mixedOrders = true := by kernel_rfl
  have hu27 := Try.underlying27
  obtain ⟨rs, hp1, hr1, hd1⟩ := raws h2
  obtain ⟨ts, hp2, hr2, hd2⟩ := raws h4
  have H1 := Aside0.mk h1
  have H3 := Aside0.mk h3
  have HR := Aside0.mk hr1
  have HT := Aside0.mk hr2
  have HD := Aside0.mk (And.intro hd1 hd2)
  have HP := Aside0.mk (And.intro hp1 hp2)
  have HX := Aside0.mk hx
  have HL := Aside0.mk hl
  have HS := Aside0.mk (And.intro s1 s3)
  clear h1 h2 h3 h4 hr1 hr2 hd1 hd2 hp1 hp2 hx hl s1 s2 s3 s4
  generalize hn : p.length = n at *
  have HN := Aside0.mk hn
  have HM := Aside0.mk hp
  clear hn hp
  go_enter Try.func15, Try.ntmps15
  go_wp2_with (first
    | ((with_reducible refine gate_dst (N := 2) rfl ?_); refine box_event ?hg (N := 2) ?hd (cs := #[.bool b, .slice A l.length c, .slice B n d]) (t := 27) ?hr ?_; (case hd => rfl); (case hg => rfl); (case hr => first | (go_simp; done) | (go_simp; rfl)); intro gA hg w1 hbox hb; have KA := Aside0.mk hbox; have HB := Aside0.mk hb; clear hg hbox hb)
    | ((with_reducible refine gate_dst (N := 3) rfl ?_); refine box_event ?hg (N := 3) ?hd (cs := #[.bool b, .slice A' l.length c', .slice B' n d']) (t := 27) ?hr ?_; (case hd => rfl); (case hg => rfl); (case hr => first | (go_simp; done) | (go_simp; rfl)); intro gB hg w2 hbox hb; have KB := Aside0.mk hbox; have KA := Aside0.mk (blk_below KA.out hb); have HB := Aside0.mk (below_step HB.out hb); clear hg hbox hb; have cA := blk_all KA.out; have cB := blk_all KB.out)
    | (go_at_call 16; (with_reducible refine (q_rSame (Kd.C_below H1.out HB.out) HS.out.1 (Kd.C_below H3.out HB.out) HS.out.2 HL.out).mono ?_); rintro e w3 ⟨rfl, hb⟩; have KA := Aside0.mk (blk_below KA.out hb); have KB := Aside0.mk (blk_below KB.out hb); have HB := Aside0.mk (below_step HB.out hb); clear hb cA cB; have cA := blk_all KA.out; have cB := blk_all KB.out))
  go_loopg [6] (n + 1) (fun kq v6 wr => ∃ i : Int, v6 = .int .i64 i ∧ Aside0 (0 ≤ i ∧ i ≤ (n : Int)) ∧ Aside0 ((n : Int) - i < (kq : Int)) ∧ Aside0 (Below w3.heap.size w3 wr))
  case atStart => exact ⟨0, rfl, ⟨Int.le_refl 0, by omega⟩, ⟨by omega⟩, ⟨Below.refl _ _⟩⟩
  case round =>
    clear cA cB
    obtain ⟨i, rfl, HI, HQ, HBr⟩ := hrel
    have KA := Aside0.mk (blk_below KA.out HBr.out)
    have KB := Aside0.mk (blk_below KB.out HBr.out)
    have cA := blk_all KA.out
    have cB := blk_all KB.out
    cases gk with
    | zero => exact absurd HQ.out (by have := HI.out; omega)
    | succ k1 =>
    by_cases hc : i < (n : Int)
    · obtain ⟨ad, x, eA, hx, hx0, hx1, hx2⟩ := cM_at HR.out i HI.out.1 hc
      obtain ⟨ad', y, eB, hy, hy0, hy1, hy2⟩ := cM_at HT.out i HI.out.1 hc
      cases eA
      cases eB
      have hw := below_step HB.out HBr.out
      have X0 := pw_cell_below hw hx0
      have X1 := pw_cell_below hw hx1
      have X2 := pw_cell_below hw hx2
      have Y0 := pw_cell_below hw hy0
      have Y1 := pw_cell_below hw hy1
      have Y2 := pw_cell_below hw hy2
      obtain ⟨xv, xb, XA, xc, xl⟩ := x
      obtain ⟨yv, yb, YA, yc, yl⟩ := y
      have hxy : toM ⟨xv, xb, XA, xc, xl⟩ = toM ⟨yv, yb, YA, yc, yl⟩ := by
        have e1 := congrArg (fun z => z[i.toNat]?) (HP.out.1.trans HP.out.2.symm)
        simp only [List.getElem?_map, hx, hy, Option.map_some, Option.some.injEq] at e1
        exact e1
      unfold toM at hxy
      simp only [S46.mk.injEq, S24.mk.injEq] at hxy
      obtain ⟨rfl, rfl, rfl⟩ := hxy
      have LX := Aside0.mk (show xl.length ≤ xc ∧ Kd.C (Kd.int .u32) wr XA xl.length xl from (HD.out.1 _ (List.mem_of_getElem? hx)).below hw)
      have LY := Aside0.mk (show xl.length ≤ yc ∧ Kd.C (Kd.int .u32) wr YA xl.length xl from (HD.out.2 _ (List.mem_of_getElem? hy)).below hw)
      have HXL := Aside0.mk (show xl.length ≤ 1000000 from HX.out (toM ⟨xv, xb, XA, xc, xl⟩) (by rw [← HP.out.1]; exact List.mem_map_of_mem (List.mem_of_getElem? hx)))
      have d1 : decide (i < (n : Int)) = true := decide_eq_true hc
      have d2 : decide (0 ≤ i) = true := decide_eq_true HI.out.1
      have p1 : (0 ≤ i) = True := eq_true HI.out.1
      have p2 : (i < (n : Int)) = True := eq_true hc
      have HC := Aside0.mk hc
      clear hx0 hx1 hx2 hy0 hy1 hy2 hw hx hy hc
      dsimp only at X0 X1 X2 Y0 Y1 Y2
      go_wp2_with fail
      go_still_tail 12, (by kernel_rfl)
      change wpList _ _ _ _ _ wr.drew
      have hd := below_drew1 (Below.refl wr.heap.size wr)
      generalize wr.drew = wd at hd ⊢
      go_wp2_with (first
        | (go_at_call 16; (with_reducible refine (q_rSame (Kd.C_below LX.out.2 hd) LX.out.1 (Kd.C_below LY.out.2 hd) LY.out.1 HXL.out).mono ?_); rintro e w4 ⟨rfl, hb⟩; have hy := below_step hd hb; have KA := Aside0.mk (blk_below KA.out hy); have KB := Aside0.mk (blk_below KB.out hy); have HBr := Aside0.mk (below_step HBr.out hy); have X0 := pw_cell_below hy X0; have Y0 := pw_cell_below hy Y0; clear hb hd hy cA cB X1 X2 Y1 Y2; have cA := blk_all KA.out; have cB := blk_all KB.out))
      go_quiet (fail)
      go_wp2
      have hwi : wrap64 (i + 1) = i + 1 := by
        have h1 := HI.out
        have h2 := HM.out
        unfold wrap64; omega
      rw [hwi]
      have hi1 : 0 ≤ i + 1 ∧ i + 1 ≤ (n : Int) := by have h1 := HI.out; have h2 := HC.out; omega
      have hq1 : (n : Int) - (i + 1) < (k1 : Int) := by have h1 := HQ.out; omega
      go_roundg k1
      case measure => omega
      case rel => exact ⟨i + 1, rfl, ⟨hi1⟩, ⟨hq1⟩, ⟨pw_below_drewN HBr.out _⟩⟩
    · have d1 : decide (i < (n : Int)) = false := decide_eq_false hc
      go_wp2
      go_ret
      exact ⟨rfl, below_step HB.out HBr.out⟩
end Go.Proofs.Ytdicjemjmlbmlaa.H
/- Calls whose answers are only read. -/
namespace Go.Proofs.Ytdicjemjmlbmlaa.H
set_option linter.unusedSimpArgs false
set_option linter.unusedVariables false
open Go.RowKit Go.Proofs.YtdicjemjmlbmlaaW.PrintWords Go.Proofs.YtdicjemjmlbmlaaW.PrintLast Go.Proofs.YtdicjemjmlbmlaaW.PrintMore Go.Proofs.Ytdicjemjmlbmlaa.PA

theorem frz_all {w : World} {g : Nat} {t : TypeId} {cs : Array Value} (h : w.heap[g]? = some (.cells cs t (0, 0))) : ∀ i, w.frozen? ⟨g, i, none⟩ = false := fun i => blk_frozen h i
/-- A row of limbs, a row of parts, that can be read. -/
structure RI (w : World) (A : Option Addr) (c : Nat) (l : List Int) : Prop where
  r : Kd.C (Kd.int .u32) w A l.length l
  s : l.length ≤ c
structure RP (w : World) (A : Option Addr) (c : Nat) (l : List S46) : Prop where
  r : Kd.C k46 w A l.length l
  s : l.length ≤ c
theorem RI.b {w w1 : World} {A : Option Addr} {c : Nat} {l : List Int} (h : RI w A c l) (hb : Below w.heap.size w w1) : RI w1 A c l := ⟨Kd.C_below h.r hb, h.s⟩
theorem RP.b {w w1 : World} {A : Option Addr} {c : Nat} {l : List S46} (h : RP w A c l) (hb : Below w.heap.size w w1) : RP w1 A c l := ⟨Kd.C_below h.r hb, h.s⟩
theorem RI.of {w : World} {base : Nat} {ok : Nat → Prop} {v : Value} {l : List Int} (h : Kd.R (Kd.int .u32) 81 w base ok v l) : ∃ A c, v = .slice A l.length c ∧ RI w A c l := by
  obtain ⟨A, c, e, h1, h2⟩ := Kd.R_reads h
  exact ⟨A, c, e, h2, h1⟩
theorem RI.ofV {w : World} {base : Nat} {ok : Nat → Prop} {v : Value} {l : List Int} (h : Kd.V (Kd.int .u32) 81 w base ok v l) : ∃ A c, v = .slice A l.length c ∧ RI w A c l := by
  obtain ⟨A, c, rfl⟩ := Kd.V_slice h
  exact ⟨A, c, rfl, (Kd.V_reads' h).2.2, (Kd.V_reads' h).2.1⟩
theorem RP.of {w : World} {base : Nat} {ok : Nat → Prop} {v : Value} {l : List S46} (h : Kd.S k46 46 w base ok v l) : ∃ A c, v = .slice A l.length c ∧ RP w A c l := by
  obtain ⟨A, c, rfl⟩ := Kd.S_slice h
  exact ⟨A, c, rfl, (Kd.S_reads' h).2.2, (Kd.S_reads' h).2.1⟩
theorem RI.nil (w : World) : RI w Option.none 0 [] := ⟨⟨rfl, Nat.zero_le _, fun h => absurd h (Nat.lt_irrefl 0)⟩, Nat.le_refl _⟩
theorem RP.nil (w : World) : RP w Option.none 0 [] := ⟨⟨rfl, Nat.zero_le _, fun h => absurd h (Nat.lt_irrefl 0)⟩, Nat.le_refl _⟩
/-- What is answered: a number; a sum. -/
def AW (w : World) (b : Bool) (l : List Int) (e : Ending) (w' : World) : Prop := ∃ A c, e = .returned (.agg #[.bool b, .slice A l.length c]) ∧ RI w' A c l ∧ Below w.heap.size w w'
def AL (w : World) (b : Bool) (l : List Int) (p : List S46) (e : Ending) (w' : World) : Prop := ∃ A c B d, e = .returned (.agg #[.bool b, .slice A l.length c, .slice B p.length d]) ∧ RI w' A c l ∧ RP w' B d p ∧ Below w.heap.size w w'
def AT (w : World) (b : Bool) (l : List Int) (p : List S46) (n : Int) (e : Ending) (w' : World) : Prop := ∃ A c B d, e = .returned (.tuple #[.agg #[.bool b, .slice A l.length c, .slice B p.length d], .int .i64 n]) ∧ RI w' A c l ∧ RP w' B d p ∧ Below w.heap.size w w'
theorem q_Tight {w : World} {b : Bool} {A B : Option Addr} {c d : Nat} {l : List Int} {p : List S46} {rb : Bool} {rl : List Int} {rp : List S46} {n : Int} (h1 : RI w A c l) (h2 : RP w B d p) (h : lin_Tight.f b l p = some (rb, rl, rp, n)) :
    Calls Try.prog 11 #[.agg #[.bool b, .slice A l.length c, .slice B p.length d]] w (AT w rb rl rp n) := by
  refine (lin_Tight.calls b _ _ l _ _ p rb rl rp n w h1.r h1.s h2.r h2.s h).mono ?_
  rintro e w' ⟨v1, v2, rfl, ho, hs, hb⟩
  obtain ⟨A, c, rfl, hr⟩ := RI.ofV ho
  obtain ⟨B, d, rfl, hr2⟩ := RP.of hs
  exact ⟨A, c, B, d, rfl, hr, hr2, hb⟩
theorem q_Even {w : World} {b : Bool} {A B : Option Addr} {c d : Nat} {l : List Int} {p : List S46} {rb : Bool} {rl : List Int} {rp : List S46} {n : Int} (h1 : RI w A c l) (h2 : RP w B d p) (h : lin_Even.f b l p = some (rb, rl, rp, n)) :
    Calls Try.prog 13 #[.agg #[.bool b, .slice A l.length c, .slice B p.length d]] w (AT w rb rl rp n) := by
  refine (lin_Even.calls b _ _ l _ _ p rb rl rp n w h1.r h1.s h2.r h2.s h).mono ?_
  rintro e w' ⟨v1, v2, rfl, ho, hs, hb⟩
  obtain ⟨A, c, rfl, hr⟩ := RI.ofV ho
  obtain ⟨B, d, rfl, hr2⟩ := RP.of hs
  exact ⟨A, c, B, d, rfl, hr, hr2, hb⟩
theorem q_light {w : World} {b b' : Bool} {A B A' B' : Option Addr} {c d c' d' : Nat} {l l' : List Int} {p p' : List S46} {k : Nat} {r : Bool} (h1 : RI w A c l) (h2 : RP w B d p) (h3 : RI w A' c' l') (h4 : RP w B' d' p') (h : gudgeonlaw13_light.f k b l p b' l' p' = some r) :
    Calls Try.prog 10 #[.agg #[.bool b, .slice A l.length c, .slice B p.length d], .agg #[.bool b', .slice A' l'.length c', .slice B' p'.length d']] w fun e w' => e = .returned (.bool r) ∧ Below w.heap.size w w' := gudgeonlaw13_light.calls k b A c l B d p b' A' c' l' B' d' p' r w h1.r h1.s h2.r h2.s h3.r h3.s h4.r h4.s h

theorem RP.ofN {w : World} {base : Nat} {ok : Nat → Prop} {v : Value} {l : List S46} (h : Kd.N k46 46 w base ok v l) : ∃ A c, v = .slice A l.length c ∧ RP w A c l := by
  obtain ⟨A, c, rfl⟩ := Kd.N_slice h
  exact ⟨A, c, rfl, (Kd.N_reads' h).2.2, (Kd.N_reads' h).2.1⟩
/-- A row of one part. -/
theorem RP.one {w : World} {A : Option Addr} {c : Nat} {l : List Int} (v : Int) (b : Bool) (h : RI w A c l) : RP (w.alloc (.cells #[.int .i64 v, .bool b, .slice A l.length c] 46 (0, 0))) (some ⟨w.heap.size, 0, none⟩) 1 [⟨v, ⟨b, l⟩⟩] := by
  have hb := blk_new w (.cells #[.int .i64 v, .bool b, .slice A l.length c] 46 (0, 0))
  refine ⟨⟨rfl, by show 1 ≤ _; decide, fun _ => ⟨_, rfl, fun j p hj => ?_⟩⟩, Nat.le_refl _⟩
  match j, hj with
  | 0, hj =>
    obtain rfl := Option.some.inj hj
    refine ⟨[.int .i64 v, .bool b, .slice A l.length c], rfl, k46_mk _ ⟨v, ⟨b, l⟩⟩ h.s (Kd.C_below h.r (below_alloc (Below.refl _ _) _)), fun i u hu => ?_⟩
    rw [show (0 * k46.sz + i) = i by omega, add_plain]
    rw [blk_cell hb]
    match i, hu with
    | 0, hu => exact hu
    | 1, hu => exact hu
    | 2, hu => exact hu
theorem q_sum {w : World} {k : Nat} {x y z : Int} {rb : Bool} {rl : List Int} {rp : List S46} (h : gudgeonlaw13_sum.f k x y z = some (rb, rl, rp)) : Calls Try.prog 39 #[.int .i64 x, .int .i64 y, .int .i64 z] w (AL w rb rl rp) := by
  refine (gudgeonlaw13_sum.calls k x y z rb rl rp w h).mono ?_
  rintro e w' ⟨v1, v2, rfl, ho, hs, hb⟩
  obtain ⟨A, c, rfl, hr⟩ := RI.of ho
  obtain ⟨B, d, rfl, hr2⟩ := RP.ofN hs
  exact ⟨A, c, B, d, rfl, hr, hr2, hb⟩
theorem q_rOf {w : World} {k : Nat} {x : Int} {rb : Bool} {rl : List Int} (h : gudgeonref02_Of.f k x = some (rb, rl)) : Calls Try.prog 32 #[.int .i64 x] w (AW w rb rl) := by
  refine (gudgeonref02_Of.calls k x rb rl w h).mono ?_
  rintro e w' ⟨v, rfl, ho, hb⟩
  obtain ⟨A, c, rfl, hr⟩ := RI.of ho
  exact ⟨A, c, rfl, hr, hb⟩
/-- A sum whose rows are not too long. -/
structure OkS (l : List Int) (p : List S46) : Prop where
  hl : l.length ≤ 1000000
  hp : p.length ≤ 1000000
  hx : ∀ x ∈ p, x.f1.f1.length ≤ 1000000
theorem q_Same {w : World} {b : Bool} {A B A' B' : Option Addr} {c d c' d' : Nat} {l : List Int} {p : List S46} (h1 : RI w A c l) (h2 : RP w B d p) (h3 : RI w A' c' l) (h4 : RP w B' d' p) (h : OkS l p) :
    Calls Try.prog 15 #[.agg #[.bool b, .slice A l.length c, .slice B p.length d], .agg #[.bool b, .slice A' l.length c', .slice B' p.length d']] w fun e w' => e = .returned (.bool true) ∧ Below w.heap.size w w' := q_SameE h1.r h1.s h2.r h2.s h3.r h3.s h4.r h4.s h.hl h.hp h.hx
/-- A sum stored into a block of its own. -/
theorem blk_put3 {w : World} {g : Nat} {t : TypeId} {x y z : Value} (h : w.heap[g]? = some (.cells #[x, y, z] t (0, 0))) (a b c : Value) : (((w.setCell ⟨g, 0, none⟩ a).setCell ⟨g, 1, none⟩ b).setCell ⟨g, 2, none⟩ c).heap[g]? = some (.cells #[a, b, c] t (0, 0)) :=
  blk_put (cs := #[a, b, z]) (blk_put (cs := #[a, y, z]) (blk_put (cs := #[x, y, z]) h 0 a rfl) 1 b rfl) 2 c rfl
theorem blk_far3 {w : World} {g k : Nat} {o : Obj} (h : w.heap[k]? = some o) (hne : k ≠ g) (a b c : Value) : (((w.setCell ⟨g, 0, none⟩ a).setCell ⟨g, 1, none⟩ b).setCell ⟨g, 2, none⟩ c).heap[k]? = some o := (set3_other w g 0 1 2 a b c k hne).trans h
theorem below_set3 {w w1 : World} {g : Nat} (h : Below w.heap.size w w1) (hg : w.heap.size ≤ g) (a b c : Value) : Below w.heap.size w (((w1.setCell ⟨g, 0, none⟩ a).setCell ⟨g, 1, none⟩ b).setCell ⟨g, 2, none⟩ c) := below_set (below_set (below_set h hg) hg) hg
end Go.Proofs.Ytdicjemjmlbmlaa.H
/- lin.At: how often a sum has a variable. -/
namespace Go.Proofs.Ytdicjemjmlbmlaa.H
set_option linter.unusedSimpArgs false
set_option linter.unusedVariables false
open Go.RowKit Go.Proofs.YtdicjemjmlbmlaaW.PrintWords Go.Proofs.YtdicjemjmlbmlaaW.PrintLast Go.Proofs.YtdicjemjmlbmlaaW.PrintMore Go.Proofs.Ytdicjemjmlbmlaa.PA Go.Proofs.Ytdicjemjmlbmlaa.V Go.Proofs.Ytdicjemjmlbmlaa.S
theorem coef_snoc (p : List (Int × Int)) (q : Int × Int) (v : Int) : coef (p ++ [q]) v = coef p v + if q.1 = v then q.2 else 0 := by
  rw [coef_append]; simp [coef]
/-- A number stored into a block of its own. -/
theorem blk_put2 {w : World} {g : Nat} {t : TypeId} {x y : Value} (h : w.heap[g]? = some (.cells #[x, y] t (0, 0))) (a b : Value) : ((w.setCell ⟨g, 0, none⟩ a).setCell ⟨g, 1, none⟩ b).heap[g]? = some (.cells #[a, b] t (0, 0)) :=
  blk_put (cs := #[a, y]) (blk_put (cs := #[x, y]) h 0 a rfl) 1 b rfl
theorem below_set2 {w w1 : World} {g : Nat} (h : Below w.heap.size w w1) (hg : w.heap.size ≤ g) (a b : Value) : Below w.heap.size w ((w1.setCell ⟨g, 0, none⟩ a).setCell ⟨g, 1, none⟩ b) := below_set (below_set h hg) hg
/-- A row of limbs of the call's own: it lies in no block of another type. -/
structure OI (w : World) (base : Nat) (A : Option Addr) (c : Nat) (l : List Int) : Prop where
  o : OwnK w base ⟨0, false, A, c, l⟩
theorem OI.of {w : World} {base base' : Nat} {ok : Nat → Prop} {v : Value} {l : List Int} (h : Kd.R (Kd.int .u32) 81 w base ok v l) (hb : base' ≤ base) : ∃ A c, v = .slice A l.length c ∧ OI w base' A c l := by
  obtain ⟨A, c, rfl⟩ := Kd.R_slice h
  exact ⟨A, c, rfl, ⟨Kd.R_lower (Kd.R_mono h (fun _ _ => trivial)) hb⟩⟩
theorem OI.b {w w1 : World} {base : Nat} {A : Option Addr} {c : Nat} {l : List Int} (h : OI w base A c l) (hb : Below w.heap.size w w1) : OI w1 base A c l := ⟨h.o.below hb⟩
theorem OI.set2 {w : World} {base : Nat} {A : Option Addr} {c : Nat} {l : List Int} (h : OI w base A c l) {g t : Nat} {cs : Array Value} (hg : w.heap[g]? = some (.cells cs t (0, 0))) (ht : t ≠ 81) (a b : Value) : OI ((w.setCell ⟨g, 0, none⟩ a).setCell ⟨g, 1, none⟩ b) base A c l :=
  ⟨h.o.move (fun k cells hk => set2_other w g 0 1 a b k (box_ne hg hk ht))⟩
theorem OI.r {w : World} {base : Nat} {A : Option Addr} {c : Nat} {l : List Int} (h : OI w base A c l) : RI w A c l := ⟨h.o.leads.2, h.o.leads.1⟩
/-- What is answered: a number in a row of its own. -/
def AO (w : World) (b : Bool) (l : List Int) (e : Ending) (w' : World) : Prop := ∃ A c, e = .returned (.agg #[.bool b, .slice A l.length c]) ∧ OI w' w.heap.size A c l ∧ Below w.heap.size w w'
theorem q_Add {w : World} {k : Nat} {b b' : Bool} {A A' : Option Addr} {c c' : Nat} {l l' : List Int} {rb : Bool} {rl : List Int} (h1 : RI w A c l) (h2 : RI w A' c' l') (h : whole_Add.f k b l b' l' = some (rb, rl)) :
    Calls Try.prog 36 #[.agg #[.bool b, .slice A l.length c], .agg #[.bool b', .slice A' l'.length c']] w (AO w rb rl) := by
  refine (whole_Add.calls k b A c l b' A' c' l' rb rl w h1.r h1.s h2.r h2.s h).mono ?_
  rintro e w' ⟨v, rfl, ho, hb⟩
  obtain ⟨A, c, rfl, hr⟩ := OI.of ho (Nat.le_refl _)
  exact ⟨A, c, rfl, hr, hb⟩
theorem q_Of {w : World} {x : Int} {rb : Bool} {rl : List Int} (h : whole_Of.f x = some (rb, rl)) : Calls Try.prog 33 #[.int .i64 x] w (AO w rb rl) := by
  refine (whole_Of.calls x rb rl w h).mono ?_
  rintro e w' ⟨v, rfl, ho, hb⟩
  obtain ⟨A, c, rfl, hr⟩ := OI.of ho (Nat.le_refl _)
  exact ⟨A, c, rfl, hr, hb⟩
set_option maxHeartbeats 8000000 in
set_option maxRecDepth 100000 in
theorem q_At {w : World} {b : Bool} {A B0 : Option Addr} {c d : Nat} {l : List Int} {p : List S46} (v : Int) {m n : Nat} (h1 : RI w A c l) (h2 : RP w B0 d p) (hs : Small m n l p) (hm : m ≤ 100000) (hn : n ≤ 100000) :
    Calls Try.prog 28 #[.agg #[.bool b, .slice A l.length c, .slice B0 p.length d], .int .i64 v] w (AW w (W (coef (p.map prM) v)).1 (W (coef (p.map prM) v)).2) := by
  have mixed : Try.prog.follows Departure.mixedOrders = true := by kernel_rfl
  have hu27 := Try.underlying27
  have hu24 := Try.underlying24
  have hu46 := Try.underlying46
  obtain ⟨rs, hp, hr, hd⟩ := raws h2.r
  have hnum := hs.num
  have hlm : ∀ x ∈ rs, Lim x.xs ∧ x.xs.length ≤ n := fun x hx => hs.each (toM x) (by rw [← hp]; exact List.mem_map_of_mem hx)
  have hpr : p.map prM = rs.map prR := by rw [← hp, pr_toM]
  have hln : rs.length = p.length := by rw [← hp, List.length_map]
  have hbq : BQ n (rs.map prR) := hpr ▸ hs.bq
  have HOF := Aside0.mk (show whole_Of.f 0 = some ((W 0).1, (W 0).2) from wOf_ev 0 (by decide) (by decide))
  rw [hpr]
  generalize hN : p.length = N at *
  have HR := Aside0.mk hr
  have HD := Aside0.mk hd
  have HM := Aside0.mk hlm
  have HLN := Aside0.mk (And.intro hln hnum)
  have HBQ := Aside0.mk hbq
  have HBD := Aside0.mk (And.intro hm hn)
  clear h1 h2 hr hd hlm hln hnum hpr hs hbq hp hN hm hn
  go_enter Try.func28, Try.ntmps28
  go_wp2_with (first
    | ((with_reducible refine gate_dst (N := 2) rfl ?_); refine box_event ?hg (N := 2) ?hd (cs := #[.bool b, .slice A l.length c, .slice B0 N d]) (t := 27) ?hr ?_; (case hd => rfl); (case hg => rfl); (case hr => first | (go_simp; done) | (go_simp; rfl)); intro gA hg w1 hbox hb; have KA := Aside0.mk hbox; have HB := Aside0.mk hb; clear hg hbox hb)
    | ((with_reducible refine gate_dst (N := 4) rfl ?_); refine box_event ?hg (N := 4) ?hd (cs := #[.bool false, .slice none 0 0]) (t := 24) ?hr ?_; (case hd => rfl); (case hg => rfl); (case hr => first | (go_simp; done) | (go_simp; rfl)); intro gR hg w2 hbox hb; have KA := Aside0.mk (blk_below KA.out hb); have GR := Aside0.mk (show w.heap.size ≤ gR by rw [hg]; exact HB.out.size); have HB := Aside0.mk (below_step HB.out hb); have KR := Aside0.mk hbox; clear hg hbox hb)
    | (go_at_call 33; (with_reducible refine (q_Of HOF.out).mono ?_); rintro e w3 ⟨A3, c3, rfl, o3, hb⟩; have KA := Aside0.mk (blk_below KA.out hb); have KR := Aside0.mk (blk_below KR.out hb); have O3 := Aside0.mk (OI.mk (Kd.R_lower o3.o HB.out.size) : OI w3 w.heap.size A3 c3 _); have HB := Aside0.mk (below_step HB.out hb); clear o3 hb)
    | ((with_reducible refine gate_dst (N := 5) rfl ?_); refine box_event ?hg (N := 5) ?hd (cs := #[.bool false, .slice none 0 0]) (t := 24) ?hr ?_; (case hd => rfl); (case hg => rfl); (case hr => first | (go_simp; done) | (go_simp; rfl)); intro gN hg w4 hbox hb; have KN := Aside0.mk hbox; have HN := Aside0.mk hb; have cN := blk_all hbox; have fN := frz_all hbox; have cA := blk_all (blk_below KA.out hb); have nAN : gA ≠ gN := (by rw [hg]; exact Nat.ne_of_lt (blk_lt KA.out)); have nNA : gN ≠ gA := (fun e => nAN e.symm); have GN := Aside0.mk (show w3.heap.size ≤ gN by rw [hg]; exact Nat.le_refl _); clear hg hbox hb))
  go_loopg [12] (N + 1) (fun kq v12 wr => ∃ (i : Int) (nb : Bool) (An : Option Addr) (cn : Nat) (nl : List Int), v12 = .int .i64 i ∧ Aside0 (0 ≤ i ∧ i ≤ (N : Int)) ∧ Aside0 ((N : Int) - i < (kq : Int)) ∧ Aside0 (W (coef ((rs.take i.toNat).map prR) v) = (nb, nl)) ∧ Aside0 (wr.heap[gN]? = some (.cells #[.bool nb, .slice An nl.length cn] 24 (0, 0))) ∧ Aside0 (OI wr w.heap.size An cn nl) ∧ Aside0 (Below w3.heap.size w3 wr))
  case atStart =>
    exact ⟨0, _, A3, c3, _, rfl, ⟨Int.le_refl 0, by omega⟩, ⟨by omega⟩, ⟨rfl⟩, ⟨blk_put2 KN.out _ _⟩, ⟨(O3.out.b HN.out).set2 KN.out (by decide) _ _⟩, ⟨below_set2 HN.out GN.out _ _⟩⟩
  case round =>
    clear cN fN cA nAN nNA
    obtain ⟨i, nb, An, cn, nl, rfl, HI, HQ, HW, BN, ON, HBr⟩ := hrel
    have cN := blk_all BN.out
    have fN := frz_all BN.out
    cases gk with
    | zero => exact absurd HQ.out (by have := HI.out; omega)
    | succ k1 =>
    by_cases hc : i < (N : Int)
    · obtain ⟨ad, x, eA, hx, hx0, hx1, hx2⟩ := cM_at HR.out i HI.out.1 hc
      cases eA
      have hw := below_step HB.out HBr.out
      have X0 := pw_cell_below hw hx0
      have X1 := pw_cell_below hw hx1
      have X2 := pw_cell_below hw hx2
      have hmem := List.mem_of_getElem? hx
      obtain ⟨xv, xb, XA, xc, xl⟩ := x
      dsimp only at X0 X1 X2
      have LX := Aside0.mk (show RI wr XA xc xl from ⟨((HD.out _ hmem).below hw).2, ((HD.out _ hmem).below hw).1⟩)
      have hlx : Lim xl ∧ xl.length ≤ n := HM.out _ hmem
      have hcB : B 300000 (coef ((rs.take i.toNat).map prR) v) := (coef_B _ v (fun y hy => HBQ.out y (by rw [← List.take_append_drop i.toNat rs, List.map_append]; exact List.mem_append_left _ hy))).mono (by have h1 := HLN.out; have h2 := HBD.out; rw [List.length_map, List.length_take]; omega)
      have e1 := wAdd_ev (W (coef ((rs.take i.toNat).map prR) v)).1 xb (W (coef ((rs.take i.toNat).map prR) v)).2 xl (W_lim _) hlx.1 (by have := hcB.len; omega) (by have := hlx.2; have := HBD.out; omega)
      rw [wv_W, HW.out] at e1
      obtain ⟨ka, hka⟩ := e1.rounds
      have hsn : coef ((rs.take (i + 1).toNat).map prR) v = coef ((rs.take i.toNat).map prR) v + if xv = v then wv xb xl else 0 := by
        rw [drop_at prR rs i HI.out.1 _ hx, coef_snoc]; rfl
      have hwi : wrap64 (i + 1) = i + 1 := by
        have h1 := HI.out
        have h2 := HLN.out
        have h3 := HBD.out
        unfold wrap64; omega
      have HWI := Aside0.mk hwi
      have HSN := Aside0.mk hsn
      have hi1 : 0 ≤ i + 1 ∧ i + 1 ≤ (N : Int) := by have h1 := HI.out; omega
      have hq1 : (N : Int) - (i + 1) < (k1 : Int) := by have h1 := HQ.out; omega
      have HI1 := Aside0.mk hi1
      have HQ1 := Aside0.mk hq1
      have d1 : decide (i < (N : Int)) = true := decide_eq_true hc
      have d2 : decide (0 ≤ i) = true := decide_eq_true HI.out.1
      have p1 : (0 ≤ i) = True := eq_true HI.out.1
      have p2 : (i < (N : Int)) = True := eq_true hc
      generalize hS : W (coef ((rs.take i.toNat).map prR) v + wv xb xl) = Ws at hka
      obtain ⟨sb, sl⟩ := Ws
      have HKA := Aside0.mk hka
      have HS := Aside0.mk hS
      clear hx0 hx1 hx2 hw hmem hx hc hlx hcB e1 hka hsn hwi hi1 hq1 hS
      by_cases hv : xv = v
      · have d3 : (xv == v) = true := beq_iff_eq.2 hv
        have HV := Aside0.mk hv
        clear hv
        go_wp2_with (first
          | ((with_reducible refine gate_dst (N := 7) rfl ?_); refine box_event ?hg (N := 7) ?hd (cs := #[.int .i64 0, .bool false, .slice none 0 0]) (t := 46) ?hr ?_; (case hd => rfl); (case hg => rfl); (case hr => first | (go_simp; done) | (go_simp; rfl)); intro gX hg w5 hbox hb; have KX := Aside0.mk hbox; have HX := Aside0.mk hb; have GX := Aside0.mk (show wr.heap.size ≤ gX by rw [hg]; exact Nat.le_refl _); have cX := blk_all hbox; have fX := frz_all hbox; have nXN : gN ≠ gX := (by rw [hg]; exact Nat.ne_of_lt (blk_lt BN.out)); have nNX : gX ≠ gN := (fun e => nXN e.symm); have cN := blk_all (blk_below BN.out hb); clear hg hbox hb)
          | (go_at_call 36; (with_reducible refine (q_Add (ON.out.r.b (below_set3 HX.out GX.out _ _ _)) (LX.out.b (below_set3 HX.out GX.out _ _ _)) HKA.out).mono ?_); rintro e w6 ⟨A6, c6, rfl, o6, hb⟩; have hx := below_step (below_set3 HX.out GX.out _ _ _) hb; have BN6 := Aside0.mk (blk_below BN.out hx); have O6 := Aside0.mk (OI.mk (Kd.R_lower o6.o (Nat.le_trans (Nat.le_trans HB.out.size HBr.out.size) (below_set3 HX.out GX.out _ _ _).size)) : OI w6 w.heap.size A6 c6 sl); have HB6 := Aside0.mk (below_step HBr.out hx); clear o6 hb hx cX fX cN; have cN := blk_all BN6.out; have fN := frz_all BN6.out))
        rw [HWI.out]
        go_roundg k1
        case measure => omega
        case rel => exact ⟨i + 1, sb, A6, c6, sl, rfl, HI1, HQ1, ⟨by rw [HSN.out, if_pos HV.out, HS.out]⟩, ⟨blk_put2 BN6.out _ _⟩, ⟨O6.out.set2 BN6.out (by decide) _ _⟩, ⟨below_set (below_set HB6.out GN.out) GN.out⟩⟩
      · have d3 : (xv == v) = false := beq_eq_false_iff_ne.2 hv
        have HV := Aside0.mk hv
        clear hv
        go_wp2_with (first
          | ((with_reducible refine gate_dst (N := 7) rfl ?_); refine box_event ?hg (N := 7) ?hd (cs := #[.int .i64 0, .bool false, .slice none 0 0]) (t := 46) ?hr ?_; (case hd => rfl); (case hg => rfl); (case hr => first | (go_simp; done) | (go_simp; rfl)); intro gX hg w5 hbox hb; have HX := Aside0.mk hb; have GX := Aside0.mk (show wr.heap.size ≤ gX by rw [hg]; exact Nat.le_refl _); have cX := blk_all hbox; have fX := frz_all hbox; clear hg hbox hb))
        rw [HWI.out]
        go_roundg k1
        case measure => omega
        case rel => exact ⟨i + 1, nb, An, cn, nl, rfl, HI1, HQ1, ⟨by rw [HSN.out, if_neg HV.out, Int.add_zero, HW.out]⟩, ⟨blk_below BN.out (below_set3 HX.out GX.out _ _ _)⟩, ⟨ON.out.b (below_set3 HX.out GX.out _ _ _)⟩, ⟨below_step HBr.out (below_set3 HX.out GX.out _ _ _)⟩⟩
    · have hi : i.toNat = rs.length := by have h1 := HI.out; have h2 := HLN.out.1; omega
      have d1 : decide (i < (N : Int)) = false := decide_eq_false hc
      have BR := Aside0.mk (blk_below KR.out HBr.out)
      have cR := blk_all BR.out
      have fR := frz_all BR.out
      have HF := Aside0.mk hi
      clear hc hi
      go_wp2
      refine bodyPost_ret (results_cell_row rfl _ _ gR 24 #[.bool nb, .slice An nl.length cn] (0, 0) _ rfl (blk_put2 BR.out _ _) Try.underlying24 rfl (by kernel_rfl)) rfl ?_
      have hw := HW.out
      rw [HF.out, List.take_length] at hw
      rw [hw]
      exact ⟨An, cn, rfl, (ON.out.set2 BR.out (by decide) _ _).r, below_set2 (below_step HB.out HBr.out) GR.out _ _⟩
end Go.Proofs.Ytdicjemjmlbmlaa.H
/- slices.Grow of nothing, and slices.Concat of two rows of parts. -/
namespace Go.Proofs.Ytdicjemjmlbmlaa.H
set_option linter.unusedSimpArgs false
set_option linter.unusedVariables false
open Go.RowKit Go.Proofs.YtdicjemjmlbmlaaW.PrintWords Go.Proofs.YtdicjemjmlbmlaaW.PrintLast Go.Proofs.YtdicjemjmlbmlaaW.PrintMore Go.Proofs.Ytdicjemjmlbmlaa.PA
set_option maxHeartbeats 1000000 in
set_option maxRecDepth 100000 in
theorem grow_nilM (n : Nat) (hn : n ≤ 1000000000000) (w : World) : Calls Try.prog 82 #[.slice none 0 0, .int .i64 (n : Int)] w fun e w' => ∃ v, e = .returned v ∧ Kd.R kM 46 w' w.heap.size (fun _ => True) v [] ∧ Below w.heap.size w w' := by
  have hw : wrap64 ((n : Int) - wrap64 (0 - 0)) = (n : Int) := by unfold wrap64; omega
  have c1 : decide ((n : Int) < 0) = false := decide_eq_false (by omega)
  have HW := Aside0.mk hw
  go_enter Try.func82, Try.ntmps82
  by_cases h0 : n = 0
  · subst h0
    go_wp2
    go_ret
    exact ⟨_, rfl, Kd.R_nil _ _ _ _ _, by repeat first | exact Below.refl _ _ | apply below_drew1⟩
  · have c2 : decide (0 < (n : Int)) = true := decide_eq_true (by omega)
    have c3 : decide (0 < n) = true := decide_eq_true (by omega)
    go_wp2_with ((with_reducible refine gate_builtin (b := .append) (xs := #[.tmp 20, .tmp 21]) rfl ?_); at_builtin; refine Kd.R_append_zeros kM (w0 := w) w.heap.size rfl (.tmp 20) (.tmp 21) 25 3 46 (.agg #[.int .i64 0, .bool false, .slice none 0 0]) 40 rfl Try.underlying25 Try.underlying3 infoM rfl (by decide) (by omega) (.slice none 0 0) [] (⟨0, false, none, 0, []⟩ : RM) (n : Int) (fun _ => True) rfl rfl rfl (fun _ _ => trivial) (Kd.R_nil _ _ _ _ _) (by omega) (by repeat first | exact Below.refl _ _ | apply below_drew1) (Nat.le_refl _) (by simp only [List.length_nil, Int.toNat_natCast]; omega) ?_; intro v22 w22 ho hb hg hat; obtain ⟨Ao, co, eo⟩ := Kd.R_slice ho; subst eo; have HO := Aside0.mk (Kd.R_take (m := 0) ho (Nat.zero_le _)); have HB := Aside0.mk hb; have HL := Aside0.mk (Kd.R_reads' ho); clear ho hb hg hat)
    go_ret
    exact ⟨_, rfl, by simpa using HO.out, HB.out⟩
set_option maxHeartbeats 4000000 in
set_option maxRecDepth 100000 in
theorem concat_twoM (g : Nat) (A0 : Option Addr) (c0 : Nat) (l0 : List RM) (A1 : Option Addr) (c1 : Nat) (l1 : List RM) (w : World) (hr0 : Kd.C kM w A0 l0.length l0) (hr1 : Kd.C kM w A1 l1.length l1)
    (hlen : l0.length + l1.length ≤ 1000000000) (h0 : w.cell? ⟨g, 0, none⟩ = some (.slice A0 l0.length c0)) (h1 : w.cell? ⟨g, 1, none⟩ = some (.slice A1 l1.length c1)) :
    Calls Try.prog 60 #[.slice (some ⟨g, 0, none⟩) 2 2] w fun e w' => ∃ v, e = .returned v ∧ Kd.R kM 46 w' w.heap.size (fun _ => True) v (l0 ++ l1) ∧ Below w.heap.size w w' := by
  have HR0 := Aside0.mk hr0
  have HR1 := Aside0.mk hr1
  have HLEN := Aside0.mk hlen
  have HB0 := Aside0.mk (World.block_lt_of_cell? w _ h0)
  clear hr0 hr1 hlen
  have q1 : wrap64 ((l0.length : Nat) : Int) = (l0.length : Int) := by have := HLEN.out; unfold wrap64; omega
  have q2 : wrap64 ((l0.length : Int) + (l1.length : Int)) = (l0.length : Int) + (l1.length : Int) := by have := HLEN.out; unfold wrap64; omega
  have p1 : decide ((l0.length : Int) < 0) = false := decide_eq_false (by omega)
  have p2 : decide ((l0.length : Int) + (l1.length : Int) < 0) = false := decide_eq_false (by omega)
  have HG := Aside0.mk (fun W => grow_nilM (l0.length + l1.length) (by have := HLEN.out; omega) W)
  rw [Int.natCast_add] at HG
  go_enter Try.func60, Try.ntmps60
  go_wp2
  refine wp_loop_rounds 3 ?_
  rw [rounds_succ]
  go_wp2
  rw [rounds_succ]
  go_wp2
  rw [rounds_succ]
  go_wp2_with (go_at_call 82; refine (HG.out _).mono ?_; rintro e w1 ⟨v1, rfl, ho, hb⟩; have HO1 := Aside0.mk ho; have HB1 := Aside0.mk hb; clear ho hb)
  have h01 := (HB1.out.cell (p := ⟨g, 0, none⟩) HB0.out).trans h0
  refine wp_loop_rounds 3 ?_
  rw [rounds_succ]
  go_wp2_with ((with_reducible refine gate_builtin (b := .append) (xs := #[.tmp 31, .tmp 32]) rfl ?_); at_builtin; refine Kd.R_append_rows kM (w0 := w) w.heap.size rfl (.tmp 31) (.tmp 32) 25 46 (.agg #[.int .i64 0, .bool false, .slice none 0 0]) 40 rfl Try.underlying25 infoM rfl (by decide) (by omega) v1 [] l0 _ _ _ (fun _ => True) (fun _ => False) rfl rfl ?aO ?aR (fun _ _ h => h) (fun _ h => h.elim) (fun _ _ => trivial) ?aB ?aS ?aL ?_; (case aO => exact HO1.out); (case aR => exact Kd.C_below HR0.out HB1.out); (case aB => exact HB1.out); (case aS => exact below_size HB1.out); (case aL => have := HLEN.out; simp only [List.length_nil, List.nil_append]; omega); intro v2 w2 ho hb hg hat; have HO2 := Aside0.mk ho; have HB2 := Aside0.mk hb; clear ho hb hg hat)
  have h12 := (HB2.out.cell (p := ⟨g, 1, none⟩) HB0.out).trans h1
  rw [rounds_succ]
  go_wp2_with ((with_reducible refine gate_builtin (b := .append) (xs := #[.tmp 31, .tmp 32]) rfl ?_); at_builtin; refine Kd.R_append_rows kM (w0 := w) w.heap.size rfl (.tmp 31) (.tmp 32) 25 46 (.agg #[.int .i64 0, .bool false, .slice none 0 0]) 40 rfl Try.underlying25 infoM rfl (by decide) (by omega) v2 ([] ++ l0) l1 _ _ _ (fun _ => True) (fun _ => False) rfl rfl ?aO ?aR (fun _ _ h => h) (fun _ h => h.elim) (fun _ _ => trivial) ?aB ?aS ?aL ?_; (case aO => exact HO2.out); (case aR => exact Kd.C_below HR1.out HB2.out); (case aB => exact HB2.out); (case aS => exact below_size HB2.out); (case aL => have := HLEN.out; simp only [List.length_nil, List.nil_append]; omega); intro v3 w3 ho hb hg hat; have HO3 := Aside0.mk ho; have HB3 := Aside0.mk hb; clear ho hb hg hat)
  rw [rounds_succ]
  go_wp2
  go_ret
  exact ⟨_, rfl, HO3.out, HB3.out⟩
end Go.Proofs.Ytdicjemjmlbmlaa.H
/- lin.Add: two sums together. -/
namespace Go.Proofs.Ytdicjemjmlbmlaa.H
set_option linter.unusedSimpArgs false
set_option linter.unusedVariables false
open Go.RowKit Go.Proofs.YtdicjemjmlbmlaaW.PrintWords Go.Proofs.YtdicjemjmlbmlaaW.PrintLast Go.Proofs.YtdicjemjmlbmlaaW.PrintMore Go.Proofs.Ytdicjemjmlbmlaa.PA Go.Proofs.Ytdicjemjmlbmlaa.V Go.Proofs.Ytdicjemjmlbmlaa.S
theorem RP.ofraw {w : World} {A : Option Addr} {c : Nat} {rs : List RM} (h : Kd.C kM w A rs.length rs) (hc : rs.length ≤ c) (hl : ∀ x ∈ rs, Leads w x) : RP w A c (rs.map toM) := by
  obtain ⟨e, hn, hcs⟩ := h
  refine ⟨?_, by rw [List.length_map]; exact hc⟩
  rw [List.length_map]
  refine ⟨by rw [List.length_map], hn, fun h0 => ?_⟩
  obtain ⟨ad, rfl, hq⟩ := hcs h0
  refine ⟨ad, rfl, fun j p hj => ?_⟩
  rw [List.getElem?_map] at hj
  obtain ⟨x, hx, rfl⟩ := Option.map_eq_some_iff.1 hj
  obtain ⟨cs, hl2, hk, hcc⟩ := hq j x hx
  have hk : cs = encM x := hk
  subst hk
  have hlx := hl x (List.mem_of_getElem? hx)
  exact ⟨_, hl2, k46_mk w (toM x) hlx.1 hlx.2, hcc⟩
theorem q_Norm {w : World} {b : Bool} {A B : Option Addr} {c d : Nat} {l : List Int} {p : List S46} {rb : Bool} {rl : List Int} {rp : List S46} (h1 : RI w A c l) (h2 : RP w B d p) (h : lin_Norm.f b l p = some (rb, rl, rp)) :
    Calls Try.prog 20 #[.agg #[.bool b, .slice A l.length c, .slice B p.length d]] w (AL w rb rl rp) := by
  refine (lin_Norm.calls b _ _ l _ _ p rb rl rp w h1.r h1.s h2.r h2.s h).mono ?_
  rintro e w' ⟨v1, v2, rfl, ho, hs, hb⟩
  obtain ⟨A, c, rfl, hr⟩ := RI.of ho
  obtain ⟨B, d, rfl, hr2⟩ := RP.of hs
  exact ⟨A, c, B, d, rfl, hr, hr2, hb⟩
/-- A sum in rows of its own, and the same behind a store into a box. -/
structure OL (w : World) (A : Option Addr) (c : Nat) (l : List Int) (B : Option Addr) (d : Nat) (p : List S46) : Prop where
  o : ∃ base, Kd.R (Kd.int .u32) 81 w base (fun _ => True) (.slice A l.length c) l ∧ Kd.S k46 46 w base (fun _ => True) (.slice B p.length d) p
theorem OL.keep {w w1 : World} {A B : Option Addr} {c d : Nat} {l : List Int} {p : List S46} (h : OL w A c l B d p) (hm : ∀ (k : Nat) (cells : Array Value) (t : Nat), t = 81 ∨ t = 46 → w.heap[k]? = some (Obj.cells cells t (0, 0)) → w1.heap[k]? = w.heap[k]?) : OL w1 A c l B d p := by
  obtain ⟨base, hr, hs⟩ := h.o
  refine ⟨base, ?_, ?_⟩
  · refine Kd.R_mono (Kd.R_move (Kd.R_bound hr) (fun k hk => ?_)) (fun _ _ => trivial)
    obtain ⟨_, _, _, q, hq, cells, hc⟩ := hk
    rcases List.mem_cons.1 hq with rfl | hq
    · exact hm k cells _ (.inl rfl) hc
    · cases hq
  · refine Kd.S_mono (Kd.S_move (Kd.S_bound hs) (fun k hk => ?_)) (fun _ _ => trivial)
    obtain ⟨_, _, _, q, hq, cells, hc⟩ := hk
    have hq : q ∈ [46, 81] := hq
    rcases List.mem_cons.1 hq with rfl | hq
    · exact hm k cells _ (.inr rfl) hc
    · rw [List.mem_singleton.1 hq] at hc
      exact hm k cells _ (.inl rfl) hc
theorem OL.set3 {w : World} {A B : Option Addr} {c d : Nat} {l : List Int} {p : List S46} (h : OL w A c l B d p) {g : Nat} {cs : Array Value} (hg : w.heap[g]? = some (.cells cs 27 (0, 0))) (x y z : Value) : OL (((w.setCell ⟨g, 0, none⟩ x).setCell ⟨g, 1, none⟩ y).setCell ⟨g, 2, none⟩ z) A c l B d p :=
  h.keep (fun k cells t ht hk => set3_other w g 0 1 2 x y z k (box_ne hg hk (fun e => by rcases ht with rfl | rfl <;> exact absurd e (by decide))))
theorem OL.b {w w1 : World} {A B : Option Addr} {c d : Nat} {l : List Int} {p : List S46} (h : OL w A c l B d p) (hb : Below w.heap.size w w1) : OL w1 A c l B d p := h.keep (fun k cells t ht hk => hb.block k (Array.getElem?_eq_some_iff.1 hk).1)
theorem OL.i {w : World} {A B : Option Addr} {c d : Nat} {l : List Int} {p : List S46} (h : OL w A c l B d p) : RI w A c l := by
  obtain ⟨base, hr, hs⟩ := h.o
  exact ⟨(Kd.R_reads' hr).2.2, (Kd.R_reads' hr).2.1⟩
theorem OL.p {w : World} {A B : Option Addr} {c d : Nat} {l : List Int} {p : List S46} (h : OL w A c l B d p) : RP w B d p := by
  obtain ⟨base, hr, hs⟩ := h.o
  exact ⟨(Kd.S_reads' hs).2.2, (Kd.S_reads' hs).2.1⟩
def ALo (w : World) (b : Bool) (l : List Int) (p : List S46) (e : Ending) (w' : World) : Prop := ∃ A c B d, e = .returned (.agg #[.bool b, .slice A l.length c, .slice B p.length d]) ∧ OL w' A c l B d p ∧ Below w.heap.size w w'
theorem q_NormO {w : World} {b : Bool} {A B : Option Addr} {c d : Nat} {l : List Int} {p : List S46} {rb : Bool} {rl : List Int} {rp : List S46} (h1 : RI w A c l) (h2 : RP w B d p) (h : lin_Norm.f b l p = some (rb, rl, rp)) :
    Calls Try.prog 20 #[.agg #[.bool b, .slice A l.length c, .slice B p.length d]] w (ALo w rb rl rp) := by
  refine (lin_Norm.calls b _ _ l _ _ p rb rl rp w h1.r h1.s h2.r h2.s h).mono ?_
  rintro e w' ⟨v1, v2, rfl, ho, hs, hb⟩
  obtain ⟨A, c, rfl⟩ := Kd.R_slice ho
  obtain ⟨B, d, rfl⟩ := Kd.S_slice hs
  exact ⟨A, c, B, d, rfl, ⟨_, ho, Kd.S_mono hs (fun _ _ => trivial)⟩, hb⟩
theorem ALo.al {w : World} {b : Bool} {l : List Int} {p : List S46} {e : Ending} {w' : World} (h : ALo w b l p e w') : AL w b l p e w' := by
  obtain ⟨A, c, B, d, rfl, ho, hb⟩ := h
  exact ⟨A, c, B, d, rfl, ho.i, ho.p, hb⟩
/-- The sum of two sums. -/
def addU (b b' : Bool) (l l' : List Int) (p p' : List S46) : Bool × List Int × List S46 := SU (wv b l + wv b' l') (normP (p.map prM ++ p'.map prM))
set_option maxHeartbeats 8000000 in
set_option maxRecDepth 100000 in
theorem q_LAdd {w : World} {b b' : Bool} {A E A' E' : Option Addr} {c d c' d' : Nat} {l l' : List Int} {p p' : List S46} {m n : Nat} (h1 : RI w A c l) (h2 : RP w E d p) (h3 : RI w A' c' l') (h4 : RP w E' d' p') (hs : Small m n l p) (hs' : Small m n l' p') (hm : m ≤ 100000) (hn : n ≤ 100000) :
    Calls Try.prog 22 #[.agg #[.bool b, .slice A l.length c, .slice E p.length d], .agg #[.bool b', .slice A' l'.length c', .slice E' p'.length d']] w (ALo w (addU b b' l l' p p').1 (addU b b' l l' p p').2.1 (addU b b' l l' p p').2.2) := by
  have mixed : Try.prog.follows Departure.mixedOrders = true := by kernel_rfl
  have hu27 := Try.underlying27
  have hu24 := Try.underlying24
  have hu46 := Try.underlying46
  obtain ⟨rs, hp, hr, hd⟩ := raws h2.r
  obtain ⟨ts, hp', hr', hd'⟩ := raws h4.r
  have hl := hs.len
  have hl' := hs'.len
  have hnu := hs.num
  have hnu' := hs'.num
  obtain ⟨ka, hka⟩ := (wAdd_ev b b' l l' hs.lim hs'.lim (by omega) (by omega)).rounds
  have hB : B (n + 1) (wv b l + wv b' l') := ((hs.b b).add (hs'.b b')).mono (by omega)
  have hsm : Small 200000 100001 (W (wv b l + wv b' l')).2 (p ++ p') := ⟨W_lim _, by have := hB.len; omega, by rw [List.length_append]; omega, fun x hx => (List.mem_append.1 hx).elim (fun h => ⟨(hs.each x h).1, by have := (hs.each x h).2; omega⟩) (fun h => ⟨(hs'.each x h).1, by have := (hs'.each x h).2; omega⟩)⟩
  have hnr := lnorm_ev hsm (by omega) (by omega) (W (wv b l + wv b' l')).1
  rw [wv_W, List.map_append] at hnr
  have hnr : lin_Norm.f (W (wv b l + wv b' l')).1 (W (wv b l + wv b' l')).2 (p ++ p') = some ((addU b b' l l' p p').1, (addU b b' l l' p p').2.1, (addU b b' l l' p p').2.2) := hnr
  generalize (addU b b' l l' p p').1 = rb at *
  generalize (addU b b' l l' p p').2.1 = rl at *
  generalize (addU b b' l l' p p').2.2 = rp at *
  generalize hW : W (wv b l + wv b' l') = Ws at *
  obtain ⟨sb, sl⟩ := Ws
  have hln : rs.length = p.length := by rw [← hp, List.length_map]
  have hln' : ts.length = p'.length := by rw [← hp', List.length_map]
  rw [← hp, ← hp', ← List.map_append] at hnr
  obtain ⟨qs, hqs⟩ : ∃ qs, qs = rs ++ ts := ⟨_, rfl⟩
  rw [← hqs] at hnr
  have HQ := Aside0.mk hqs
  have HNR := Aside0.mk hnr
  have HS := Aside0.mk hka
  have HR := Aside0.mk hr
  have HT := Aside0.mk hr'
  have HD := Aside0.mk (And.intro hd hd')
  generalize hN : p.length = N at *
  generalize hN' : p'.length = N' at *
  have HN := Aside0.mk (And.intro hln hln')
  have HNM := Aside0.mk (show N ≤ 100000 ∧ N' ≤ 100000 by omega)
  have R1 := Aside0.mk h1
  have R2 := Aside0.mk h3
  have HB := Aside0.mk (Below.refl w.heap.size w)
  clear h1 h2 h3 h4 hr hr' hd hd' hp hp' hl hl' hnu hnu' hka hB hsm hnr hW hln hln' hN hN' hs hs' hm hn hqs
  go_enter Try.func22, Try.ntmps22
  go_wp2_with (first
    | ((with_reducible refine gate_dst (N := 2) rfl ?_); refine box_event ?hg (N := 2) ?hd (cs := #[.bool b, .slice A l.length c, .slice E N d]) (t := 27) ?hr ?_; (case hd => rfl); (case hg => rfl); (case hr => first | (go_simp; done) | (go_simp; rfl)); intro gA hg w1 hbox hb; have R1 := Aside0.mk (R1.out.b hb); have R2 := Aside0.mk (R2.out.b hb); have HB := Aside0.mk (below_step HB.out hb); have KA := Aside0.mk hbox; clear hg hbox hb)
    | ((with_reducible refine gate_dst (N := 3) rfl ?_); refine box_event ?hg (N := 3) ?hd (cs := #[.bool b', .slice A' l'.length c', .slice E' N' d']) (t := 27) ?hr ?_; (case hd => rfl); (case hg => rfl); (case hr => first | (go_simp; done) | (go_simp; rfl)); intro gB hg w2 hbox hb; have KA := Aside0.mk (blk_below KA.out hb); have R1 := Aside0.mk (R1.out.b hb); have R2 := Aside0.mk (R2.out.b hb); have HB := Aside0.mk (below_step HB.out hb); have KB := Aside0.mk hbox; clear hg hbox hb; have HB2 := HB)
    | ((with_reducible refine gate_dst (N := 4) rfl ?_); refine box_event ?hg (N := 4) ?hd (cs := #[.bool false, .slice none 0 0, .slice none 0 0]) (t := 27) ?hr ?_; (case hd => rfl); (case hg => rfl); (case hr => first | (go_simp; done) | (go_simp; rfl)); intro gR hg w3 hbox hb; have KA := Aside0.mk (blk_below KA.out hb); have KB := Aside0.mk (blk_below KB.out hb); have R1 := Aside0.mk (R1.out.b hb); have R2 := Aside0.mk (R2.out.b hb); have HB := Aside0.mk (below_step HB.out hb); have KR := Aside0.mk hbox; have GR := Aside0.mk (show w.heap.size ≤ gR by rw [hg]; exact (below_size HB2.out)); clear hg hbox hb; have cA := blk_all KA.out; have cB := blk_all KB.out))
  have HC := HB
  refine start_ (n := 14) (S := fun w' => (∀ i : Nat, w'.cell? ⟨gA, i, none⟩ = (#[.bool b, .slice A l.length c, .slice E N d] : Array Value)[i]?) ∧ (∀ i : Nat, w'.cell? ⟨gB, i, none⟩ = (#[.bool b', .slice A' l'.length c', .slice E' N' d'] : Array Value)[i]?)) (ds := [13]) #[false, false, false, false, false, false, false, false, false, false, false, false, false, false] (by kernel_rfl) rfl rfl ⟨cA, cB⟩ (fun hHeld => ?_)
  refine pure_ (i := 0) (N := some 5) (v := ?_) (a' := ?_) #[true, false, false, false, false, false, false, false, false, false, false, false, false, false] rfl rfl (by kernel_rfl) (fun _ _ _ h => h) (Or.inl ⟨by rfl, ?_⟩) ?_ ?_
  rotate_left
  · intro w'
    go_simp
    with_reducible rfl
  rotate_left
  · simp only [Act.put, List.setIfInBounds_toArray, List.set_cons_zero, List.set_cons_succ, i64_w, i32_w]
    rfl
  refine pure_ (i := 2) (N := some 7) (v := ?_) (a' := ?_) #[true, false, true, false, false, false, false, false, false, false, false, false, false, false] rfl rfl (by kernel_rfl) (fun _ _ _ h => h) (Or.inl ⟨by rfl, ?_⟩) ?_ ?_
  rotate_left
  · intro w'
    go_simp
    with_reducible rfl
  rotate_left
  · simp only [Act.put, List.setIfInBounds_toArray, List.set_cons_zero, List.set_cons_succ, i64_w, i32_w]
    rfl
  refine pure_ (i := 5) (N := some 10) (v := ?_) (a' := ?_) #[true, false, true, false, false, true, false, false, false, false, false, false, false, false] rfl rfl (by kernel_rfl) (fun _ _ _ h => h) (Or.inl ⟨by rfl, ?_⟩) ?_ ?_
  rotate_left
  · intro w'
    go_simp
    with_reducible rfl
  rotate_left
  · simp only [Act.put, List.setIfInBounds_toArray, List.set_cons_zero, List.set_cons_succ, i64_w, i32_w]
    rfl
  refine pure_ (i := 7) (N := some 12) (v := ?_) (a' := ?_) #[true, false, true, false, false, true, false, true, false, false, false, false, false, false] rfl rfl (by kernel_rfl) (fun _ _ _ h => h) (Or.inl ⟨by rfl, ?_⟩) ?_ ?_
  rotate_left
  · intro w'
    go_simp
    with_reducible rfl
  rotate_left
  · simp only [Act.put, List.setIfInBounds_toArray, List.set_cons_zero, List.set_cons_succ, i64_w, i32_w]
    rfl
  refine take_ (i := 1) (N := some 6) (v := ?_) (a' := ?_) #[true, true, true, false, false, true, false, true, false, false, false, false, false, false] rfl rfl (by kernel_rfl) (fun _ _ _ h => h) (Or.inl ⟨by rfl, ?_⟩) hHeld ?_ ?_
  rotate_left
  · rintro w' ⟨s0, s1⟩
    go_simp
    with_reducible rfl
  rotate_left
  · simp only [Act.put, List.setIfInBounds_toArray, List.set_cons_zero, List.set_cons_succ, i64_w, i32_w]
    rfl
  refine take_ (i := 3) (N := some 8) (v := ?_) (a' := ?_) #[true, true, true, true, false, true, false, true, false, false, false, false, false, false] rfl rfl (by kernel_rfl) (fun _ _ _ h => h) (Or.inl ⟨by rfl, ?_⟩) hHeld ?_ ?_
  rotate_left
  · rintro w' ⟨s0, s1⟩
    go_simp
    with_reducible rfl
  rotate_left
  · simp only [Act.put, List.setIfInBounds_toArray, List.set_cons_zero, List.set_cons_succ, i64_w, i32_w]
    rfl
  refine take_ (i := 6) (N := some 11) (v := ?_) (a' := ?_) #[true, true, true, true, false, true, true, true, false, false, false, false, false, false] rfl rfl (by kernel_rfl) (fun _ _ _ h => h) (Or.inl ⟨by rfl, ?_⟩) hHeld ?_ ?_
  rotate_left
  · rintro w' ⟨s0, s1⟩
    go_simp
    with_reducible rfl
  rotate_left
  · simp only [Act.put, List.setIfInBounds_toArray, List.set_cons_zero, List.set_cons_succ, i64_w, i32_w]
    rfl
  refine take_ (i := 8) (N := some 13) (v := ?_) (a' := ?_) #[true, true, true, true, false, true, true, true, true, false, false, false, false, false] rfl rfl (by kernel_rfl) (fun _ _ _ h => h) (Or.inl ⟨by rfl, ?_⟩) hHeld ?_ ?_
  rotate_left
  · rintro w' ⟨s0, s1⟩
    go_simp
    with_reducible rfl
  rotate_left
  · simp only [Act.put, List.setIfInBounds_toArray, List.set_cons_zero, List.set_cons_succ, i64_w, i32_w]
    rfl
  refine join_ (σ := (Option Addr × Nat) × Nat) 4 #[true, true, true, true, true, true, true, true, true, true, false, false, false, false] (fun s => [(9, .agg #[.bool sb, .slice s.1.1 sl.length s.1.2]), (14, .slice (some ⟨s.2, 0, none⟩) 2 2)]) (fun s w' => Aside0 (RI w' s.1.1 s.1.2 sl) ∧ Aside0 (w'.heap[s.2]? = some (.cells #[.slice E N d, .slice E' N' d'] 25 (0, 0))) ∧ Aside0 (Below w3.heap.size w3 w')) ?_ ?_
  rotate_left
  · intro hCont
    refine two_ (i := 4) (j := 9) (Ni := some 9) (Nj := some 14) #[true, true, true, true, true, true, true, true, true, false, false, false, false, false] #[true, true, true, true, false, true, true, true, true, true, false, false, false, false] rfl rfl rfl rfl (by kernel_rfl) (by decide) (by decide) (fun K hK => ?_) (fun K hK => ?_)
    · skip
      refine goes_ Try.func36 (by kernel_rfl) rfl #[.agg #[.bool b, .slice A l.length c], .agg #[.bool b', .slice A' l'.length c']] (by rfl) rfl rfl (by simp only [List.map_toArray, List.map_cons, List.map_nil]; rfl) ?_
      with_reducible refine (q_Add (R1.out.b (below_drew1 (Below.refl w3.heap.size w3))) (R2.out.b (below_drew1 (Below.refl w3.heap.size w3))) HS.out).mono ?_
      rintro e wa ⟨A9, c9, rfl, o9, hb⟩
      have HU := Aside0.mk (below_step (below_drew1 (Below.refl w3.heap.size w3)) hb)
      have R9 := Aside0.mk o9.r
      clear o9 hb
      refine ⟨_, rfl, ?_⟩
      refine hK.out _ _ ⟨blk_all (blk_below KA.out HU.out), blk_all (blk_below KB.out HU.out)⟩ (fun hHeld => ?_)
      clear hK K
      refine norm_ (a' := ?_) ?_ ?_
      rotate_left
      · show Act.put _ (some 9) _ = _
        simp only [Act.put, List.setIfInBounds_toArray, List.set_cons_zero, List.set_cons_succ, i64_w, i32_w]
        rfl
      refine one_ (i := 9) (N := some 14) #[true, true, true, true, true, true, true, true, true, true, false, false, false, false] rfl rfl (by kernel_rfl) (by decide) (fun K hK => ?_)
      have KG := Aside0.mk (blk_new wa (.cells #[.slice E N d, .slice E' N' d'] 25 (0, 0)))
      have HV := Aside0.mk (below_alloc HU.out (.cells #[.slice E N d, .slice E' N' d'] 25 (0, 0)))
      have R9 := Aside0.mk (R9.out.b (below_alloc (Below.refl wa.heap.size wa) (.cells #[.slice E N d, .slice E' N' d'] 25 (0, 0))))
      refine value_ (w1 := ?_) (v := ?_) (by rfl) rfl ?_ ?_
      rotate_left 2
      · go_simp
        constructor
        · rfl
        · rfl
      refine hK.out _ _ ⟨blk_all (blk_below KA.out HV.out), blk_all (blk_below KB.out HV.out)⟩ (fun hHeld => ?_)
      clear hK K
      refine norm_ (a' := ?_) ?_ ?_
      rotate_left
      · show Act.put _ (some 14) _ = _
        simp only [Act.put, List.setIfInBounds_toArray, List.set_cons_zero, List.set_cons_succ, i64_w, i32_w]
        rfl
      exact norm_ (by simp only [putAll, Act.put, List.setIfInBounds_toArray, List.set_cons_zero, List.set_cons_succ]) (hCont ((A9, c9), wa.heap.size) _ ⟨R9, KG, HV⟩)
    · skip
      have KG := Aside0.mk (blk_drew (blk_new w3 (.cells #[.slice E N d, .slice E' N' d'] 25 (0, 0))))
      have HV := Aside0.mk (below_drew1 (below_alloc (Below.refl w3.heap.size w3) (.cells #[.slice E N d, .slice E' N' d'] 25 (0, 0))))
      refine value_ (w1 := ?_) (v := ?_) (by rfl) rfl ?_ ?_
      rotate_left 2
      · go_simp
        constructor
        · rfl
        · rfl
      refine hK.out _ _ ⟨blk_all (blk_below KA.out HV.out), blk_all (blk_below KB.out HV.out)⟩ (fun hHeld => ?_)
      clear hK K
      refine norm_ (a' := ?_) ?_ ?_
      rotate_left
      · show Act.put _ (some 14) _ = _
        simp only [Act.put, List.setIfInBounds_toArray, List.set_cons_zero, List.set_cons_succ, i64_w, i32_w]
        rfl
      refine one_ (i := 4) (N := some 9) #[true, true, true, true, true, true, true, true, true, true, false, false, false, false] rfl rfl (by kernel_rfl) (by decide) (fun K hK => ?_)
      refine goes_ Try.func36 (by kernel_rfl) rfl #[.agg #[.bool b, .slice A l.length c], .agg #[.bool b', .slice A' l'.length c']] (by rfl) rfl rfl (by simp only [List.map_toArray, List.map_cons, List.map_nil]; rfl) ?_
      with_reducible refine (q_Add (R1.out.b HV.out) (R2.out.b HV.out) HS.out).mono ?_
      rintro e wa ⟨A9, c9, rfl, o9, hb⟩
      have HU := Aside0.mk (below_step HV.out hb)
      have R9 := Aside0.mk o9.r
      have KG := Aside0.mk (blk_below KG.out hb)
      clear o9 hb
      refine ⟨_, rfl, ?_⟩
      refine hK.out _ _ ⟨blk_all (blk_below KA.out HU.out), blk_all (blk_below KB.out HU.out)⟩ (fun hHeld => ?_)
      clear hK K
      refine norm_ (a' := ?_) ?_ ?_
      rotate_left
      · show Act.put _ (some 9) _ = _
        simp only [Act.put, List.setIfInBounds_toArray, List.set_cons_zero, List.set_cons_succ, i64_w, i32_w]
        rfl
      exact norm_ (by simp only [putAll, Act.put, List.setIfInBounds_toArray, List.set_cons_zero, List.set_cons_succ]) (hCont ((A9, c9), w3.heap.size) _ ⟨R9, KG, HU⟩)
  rintro ⟨⟨A9, c9⟩, g⟩ wb ⟨R9, KG, HV⟩
  have hHeld : (∀ i : Nat, wb.cell? ⟨gA, i, none⟩ = (#[.bool b, .slice A l.length c, .slice E N d] : Array Value)[i]?) ∧ (∀ i : Nat, wb.cell? ⟨gB, i, none⟩ = (#[.bool b', .slice A' l'.length c', .slice E' N' d'] : Array Value)[i]?) := ⟨blk_all (blk_below KA.out HV.out), blk_all (blk_below KB.out HV.out)⟩
  dsimp only at R9 KG
  have HC := Aside0.mk (below_step HC.out HV.out)
  refine norm_ (a' := ?_) ?_ ?_
  rotate_left
  · simp only [putAll, Act.put, List.setIfInBounds_toArray, List.set_cons_zero, List.set_cons_succ]
    rfl
  refine one_ (i := 10) (N := some 15) #[true, true, true, true, true, true, true, true, true, true, true, false, false, false] rfl rfl (by kernel_rfl) (by decide) (fun K hK => ?_)
  refine goes_ Try.func60 (by kernel_rfl) rfl #[.slice (some ⟨g, 0, none⟩) 2 2] (by rfl) rfl rfl (by simp only [List.map_toArray, List.map_cons, List.map_nil]; rfl) ?_
  with_reducible refine (concat_twoM g E d rs E' d' ts wb ?c1 ?c2 ?c3 ?c4 ?c5).mono ?_
  case c1 => rw [HN.out.1]; exact Kd.C_below HR.out HC.out
  case c2 => rw [HN.out.2]; exact Kd.C_below HT.out HC.out
  case c3 => have := HN.out; have := HNM.out; omega
  case c4 => rw [HN.out.1]; exact blk_cell KG.out 0
  case c5 => rw [HN.out.2]; exact blk_cell KG.out 1
  rintro e wc ⟨v, rfl, ho, hb⟩
  rw [← HQ.out] at ho
  obtain ⟨AC, cC, rfl, hsC, hrC⟩ := Kd.R_reads ho
  have HV := Aside0.mk (below_step HV.out hb)
  have HC := Aside0.mk (below_step HC.out hb)
  have R9 := Aside0.mk (R9.out.b hb)
  have RC := Aside0.mk (RP.ofraw hrC hsC (fun x hx => (List.mem_append.1 (show x ∈ rs ++ ts by rw [← HQ.out]; exact hx)).elim (fun h => (HD.out.1 x h).below HC.out) (fun h => (HD.out.2 x h).below HC.out)))
  clear ho hb hsC hrC
  refine ⟨_, rfl, ?_⟩
  refine hK.out _ _ ⟨blk_all (blk_below KA.out HV.out), blk_all (blk_below KB.out HV.out)⟩ (fun hHeld => ?_)
  clear hK K
  refine norm_ (a' := ?_) ?_ ?_
  rotate_left
  · show Act.put _ (some 15) _ = _
    simp only [Act.put, List.setIfInBounds_toArray, List.set_cons_zero, List.set_cons_succ, i64_w, i32_w]
    rfl
  refine pure_ (i := 11) (N := some 16) (v := ?_) (a' := ?_) #[true, true, true, true, true, true, true, true, true, true, true, true, false, false] rfl rfl (by kernel_rfl) (fun _ _ _ h => h) (Or.inl ⟨by rfl, ?_⟩) ?_ ?_
  rotate_left
  · intro w'
    go_simp
    with_reducible rfl
  rotate_left
  · simp only [Act.put, List.setIfInBounds_toArray, List.set_cons_zero, List.set_cons_succ, i64_w, i32_w]
    rfl
  refine one_ (i := 12) (N := some 17) #[true, true, true, true, true, true, true, true, true, true, true, true, true, false] rfl rfl (by kernel_rfl) (by decide) (fun K hK => ?_)
  refine goes_ Try.func20 (by kernel_rfl) rfl #[.agg #[.bool sb, .slice A9 sl.length c9, .slice AC qs.length cC]] (by rfl) rfl rfl (by simp only [List.map_toArray, List.map_cons, List.map_nil]; rfl) ?_
  have hN := q_NormO R9.out RC.out HNR.out
  rw [List.length_map] at hN
  refine hN.mono ?_
  clear hN
  rintro e wd ⟨AD, cD, BD, dD, rfl, oD, hb⟩
  have HV := Aside0.mk (below_step HV.out hb)
  have HC := Aside0.mk (below_step HC.out hb)
  have OD := Aside0.mk oD
  clear oD hb
  have KR := Aside0.mk (blk_below KR.out HV.out)
  have cR := blk_all KR.out
  have fR := frz_all KR.out
  refine ⟨_, rfl, ?_⟩
  refine hK.out _ _ ⟨blk_all (blk_below KA.out HV.out), blk_all (blk_below KB.out HV.out)⟩ (fun hHeld => ?_)
  clear hK K
  refine norm_ (a' := ?_) ?_ ?_
  rotate_left
  · show Act.put _ (some 17) _ = _
    simp only [Act.put, List.setIfInBounds_toArray, List.set_cons_zero, List.set_cons_succ, i64_w, i32_w]
    rfl
  refine last_ (i := 13) (N := none) #[true, true, true, true, true, true, true, true, true, true, true, true, true, true] rfl rfl (by kernel_rfl) (by decide) (fun K hK => ?_)
  refine skip_ (w1 := ?_) (by rfl) rfl ?_ ?_
  rotate_left
  · go_simp
    rfl
  refine hK.out _ _ ?_
  clear hK K
  refine done_ (by kernel_rfl) ?_

  go_wp2_with fail
  refine bodyPost_ret (results_cell_row rfl _ _ gR 27 #[.bool rb, .slice AD rl.length cD, .slice BD rp.length dD] (0, 0) _ rfl (blk_put3 KR.out _ _ _) Try.underlying27 rfl (by kernel_rfl)) rfl ?_
  exact ⟨AD, cD, BD, dD, rfl, OD.out.set3 KR.out _ _ _, below_set3 HC.out GR.out _ _ _⟩
end Go.Proofs.Ytdicjemjmlbmlaa.H
/- lin.Of, lin.Var: a number, a variable as a sum. -/
namespace Go.Proofs.Ytdicjemjmlbmlaa.H
set_option linter.unusedSimpArgs false
set_option linter.unusedVariables false
open Go.RowKit Go.Proofs.YtdicjemjmlbmlaaW.PrintWords Go.Proofs.YtdicjemjmlbmlaaW.PrintLast Go.Proofs.YtdicjemjmlbmlaaW.PrintMore Go.Proofs.Ytdicjemjmlbmlaa.PA Go.Proofs.Ytdicjemjmlbmlaa.V Go.Proofs.Ytdicjemjmlbmlaa.S
theorem OI.set3 {w : World} {base : Nat} {A : Option Addr} {c : Nat} {l : List Int} (h : OI w base A c l) {g t : Nat} {cs : Array Value} (hg : w.heap[g]? = some (.cells cs t (0, 0))) (ht : t ≠ 81) (x y z : Value) : OI (((w.setCell ⟨g, 0, none⟩ x).setCell ⟨g, 1, none⟩ y).setCell ⟨g, 2, none⟩ z) base A c l :=
  ⟨h.o.move (fun k cells hk => set3_other w g 0 1 2 x y z k (box_ne hg hk ht))⟩
/-- A row of one part, where it lies. -/
theorem RP.ones {w : World} {g : Nat} {A : Option Addr} {c : Nat} {l : List Int} {v : Int} {b : Bool} (hb : w.heap[g]? = some (.cells #[.int .i64 v, .bool b, .slice A l.length c] 46 (0, 0))) (h : RI w A c l) : RP w (some ⟨g, 0, Option.none⟩) 1 [⟨v, ⟨b, l⟩⟩] := by
  refine ⟨⟨rfl, by show 1 ≤ _; decide, fun _ => ⟨_, rfl, fun j p hj => ?_⟩⟩, Nat.le_refl _⟩
  match j, hj with
  | 0, hj =>
    obtain rfl := Option.some.inj hj
    refine ⟨[.int .i64 v, .bool b, .slice A l.length c], rfl, k46_mk _ ⟨v, ⟨b, l⟩⟩ h.s h.r, fun i u hu => ?_⟩
    rw [show (0 * k46.sz + i) = i by omega, add_plain, blk_cell hb]
    match i, hu with
    | 0, hu => exact hu
    | 1, hu => exact hu
    | 2, hu => exact hu
theorem q_WNorm {w : World} {b : Bool} {A : Option Addr} {c : Nat} {l : List Int} {rb : Bool} {rl : List Int} (h1 : RI w A c l) (h : whole_Norm.f b l = some (rb, rl)) : Calls Try.prog 51 #[.agg #[.bool b, .slice A l.length c]] w (AO w rb rl) := by
  refine (whole_Norm.calls b A c l rb rl w h1.r h1.s h).mono ?_
  rintro e w' ⟨v, rfl, ho, hb⟩
  obtain ⟨A, c, rfl, hr⟩ := OI.of ho (Nat.le_refl _)
  exact ⟨A, c, rfl, hr, hb⟩
set_option maxHeartbeats 8000000 in
set_option maxRecDepth 100000 in
theorem q_LOf {w : World} {b : Bool} {A : Option Addr} {c : Nat} {l : List Int} (h1 : RI w A c l) (hl : Lim l) (hn : l.length ≤ 1000000) :
    Calls Try.prog 30 #[.agg #[.bool b, .slice A l.length c]] w (AL w (W (wv b l)).1 (W (wv b l)).2 []) := by
  have mixed : Try.prog.follows Departure.mixedOrders = true := by kernel_rfl
  have hu27 := Try.underlying27
  have hu24 := Try.underlying24
  have HF := Aside0.mk (show whole_Norm.f b l = some ((W (wv b l)).1, (W (wv b l)).2) from wNorm_ev b l hl (by omega))
  generalize (W (wv b l)).1 = rb at *
  generalize (W (wv b l)).2 = rl at *
  have R1 := Aside0.mk h1
  clear h1 hl hn
  go_enter Try.func30, Try.ntmps30
  go_wp2_with (first
    | ((with_reducible refine gate_dst (N := 1) rfl ?_); refine box_event ?hg (N := 1) ?hd (cs := #[.bool b, .slice A l.length c]) (t := 24) ?hr ?_; (case hd => rfl); (case hg => rfl); (case hr => first | (go_simp; done) | (go_simp; rfl)); intro gA hg w1 hbox hb; have KA := Aside0.mk hbox; have HB := Aside0.mk hb; clear hg hbox hb)
    | ((with_reducible refine gate_dst (N := 2) rfl ?_); refine box_event ?hg (N := 2) ?hd (cs := #[.bool false, .slice none 0 0, .slice none 0 0]) (t := 27) ?hr ?_; (case hd => rfl); (case hg => rfl); (case hr => first | (go_simp; done) | (go_simp; rfl)); intro gR hg w2 hbox hb; have KR := Aside0.mk hbox; have cA := blk_all (blk_below KA.out hb); have GR := Aside0.mk (show w.heap.size ≤ gR by rw [hg]; exact HB.out.size); have HB := Aside0.mk (below_step HB.out hb); clear hg hbox hb)
    | (go_at_call 51; (with_reducible refine (q_WNorm (R1.out.b HB.out) HF.out).mono ?_); rintro e w3 ⟨A3, c3, rfl, o3, hb⟩; have KR := Aside0.mk (blk_below KR.out hb); have HB := Aside0.mk (below_step HB.out hb); have O3 := Aside0.mk o3; clear o3 hb cA; have cR := blk_all KR.out; have fR := frz_all KR.out))
  refine bodyPost_ret (results_cell_row rfl _ _ gR 27 #[.bool rb, .slice A3 rl.length c3, .slice none 0 0] (0, 0) _ rfl (blk_put3 KR.out _ _ _) Try.underlying27 rfl (by kernel_rfl)) rfl ?_
  exact ⟨A3, c3, none, 0, rfl, (O3.out.set3 KR.out (by decide) _ _ _).r, RP.nil _, below_set3 HB.out GR.out _ _ _⟩
set_option maxHeartbeats 8000000 in
set_option maxRecDepth 100000 in
theorem q_Var {w : World} (v : Int) : Calls Try.prog 31 #[.int .i64 v] w (AL w (W 0).1 (W 0).2 [⟨v, ⟨(W 1).1, (W 1).2⟩⟩]) := by
  have mixed : Try.prog.follows Departure.mixedOrders = true := by kernel_rfl
  have hu27 := Try.underlying27
  have hu24 := Try.underlying24
  have hu46 := Try.underlying46
  have HF := Aside0.mk (show whole_Of.f 0 = some ((W 0).1, (W 0).2) from wOf_ev 0 (by decide) (by decide))
  have HG := Aside0.mk (show whole_Of.f 1 = some ((W 1).1, (W 1).2) from wOf_ev 1 (by decide) (by decide))
  generalize (W 0).1 = zb at *
  generalize (W 0).2 = zl at *
  generalize (W 1).1 = ob at *
  generalize (W 1).2 = ol at *
  go_enter Try.func31, Try.ntmps31
  go_wp2_with (first
    | ((with_reducible refine gate_dst (N := 2) rfl ?_); refine box_event ?hg (N := 2) ?hd (cs := #[.bool false, .slice none 0 0, .slice none 0 0]) (t := 27) ?hr ?_; (case hd => rfl); (case hg => rfl); (case hr => first | (go_simp; done) | (go_simp; rfl)); intro gR hg w2 hbox hb; have KR := Aside0.mk hbox; have GR := Aside0.mk (show w.heap.size ≤ gR by rw [hg]; exact Nat.le_refl _); have HB := Aside0.mk hb; clear hg hbox hb)
    | (go_at_call 33; (with_reducible refine (q_Of HF.out).mono ?_); rintro e w3 ⟨A3, c3, rfl, o3, hb⟩; have KR := Aside0.mk (blk_below KR.out hb); have HB := Aside0.mk (below_step HB.out hb); have O3 := Aside0.mk o3; clear o3 hb)
    | (go_at_call 33; (with_reducible refine (q_Of HG.out).mono ?_); rintro e w4 ⟨A4, c4, rfl, o4, hb⟩; have O4 := Aside0.mk (o4.b (below_alloc (Below.refl w4.heap.size w4) (.cells #[.int .i64 v, .bool ob, .slice A4 ol.length c4] 46 (0, 0)))); have hx := below_alloc hb (.cells #[.int .i64 v, .bool ob, .slice A4 ol.length c4] 46 (0, 0)); have KR := Aside0.mk (blk_below KR.out hx); have KX := Aside0.mk (blk_new w4 (.cells #[.int .i64 v, .bool ob, .slice A4 ol.length c4] 46 (0, 0))); have NX := Aside0.mk (show w4.heap.size ≠ gR from box_ne KR.out KX.out (by decide)); have HB := Aside0.mk (below_step HB.out hx); have O3 := Aside0.mk (O3.out.b hx); clear o4 hb hx; have cR := blk_all KR.out; have fR := frz_all KR.out))
  refine bodyPost_ret (results_cell_row rfl _ _ gR 27 #[.bool zb, .slice A3 zl.length c3, .slice (some ⟨w4.heap.size, 0, none⟩) 1 1] (0, 0) _ rfl (blk_put3 KR.out _ _ _) Try.underlying27 rfl (by kernel_rfl)) rfl ?_
  exact ⟨A3, c3, some ⟨w4.heap.size, 0, none⟩, 1, rfl, (O3.out.set3 KR.out (by decide) _ _ _).r, RP.ones (blk_far3 KX.out NX.out _ _ _) (O4.out.set3 KR.out (by decide) _ _ _).r, below_set3 HB.out GR.out _ _ _⟩
end Go.Proofs.Ytdicjemjmlbmlaa.H
/- Written by a program of this session, wip/tools/patch_print.py, over the kit's print of the loaded functions. -/
namespace Go.Proofs.Ytdicjemjmlbmlaa.H
end Go.Proofs.Ytdicjemjmlbmlaa.H
namespace Go.Proofs.Ytdicjemjmlbmlaa.PA
open Go.RowKit Go.Proofs.YtdicjemjmlbmlaaW.PrintWords Go.Proofs.YtdicjemjmlbmlaaW.PrintLast Go.Proofs.YtdicjemjmlbmlaaW.PrintMore Go.Proofs.Ytdicjemjmlbmlaa.H
attribute [local go_sem] max2_int min2_int max_two min_two max_three min_three max_four min_four   -- for this text's walks alone
attribute [local go_sem] box_twice
set_option linter.unusedVariables false
set_option linter.unusedSimpArgs false

/-! ### gudgeonref13_At: function 29 -/
/-! ### gudgeonref02_Sign: function 44 -/
def gudgeonref02_Sign.f (k : Nat) (a0_0 : Bool) (l0_1 : List Int) : Option (Int) := (gudgeonref02_Norm.f k a0_0 l0_1).bind fun bt842 => (if (bt842.2.length : Int) = 0 then (some 0) else (if bt842.1 = true then (some (-1)) else (some 1)))
set_option maxHeartbeats 8000000 in
set_option maxRecDepth 100000 in
theorem gudgeonref02_Sign.calls (k : Nat) (a0_0 : Bool) (A0_1 : Option Addr) (c0_1 : Nat) (l0_1 : List Int) (r : Int) (w : World) (hr0_1 : Kd.C (Kd.int .u32) w A0_1 l0_1.length l0_1) (hc0_1 : l0_1.length ≤ c0_1) (h : gudgeonref02_Sign.f k a0_0 l0_1 = some r) :
  Calls Try.prog 44 #[.agg #[.bool a0_0, .slice A0_1 l0_1.length c0_1]] w fun e w' => e = .returned (.int .i64 r) ∧ Below w.heap.size w w' := by
 have hu24 := Try.underlying24
 have HR0_1 := Aside0.mk hr0_1
 have HC0_1 := Aside0.mk hc0_1
 clear hr0_1 hc0_1
 have HB := Aside0.mk (Below.refl w.heap.size w)
 have H : ((gudgeonref02_Norm.f k a0_0 l0_1).bind fun bt842 => (if (bt842.2.length : Int) = 0 then (some 0) else (if bt842.1 = true then (some (-1)) else (some 1)))) = some r := h
 clear h
 obtain ⟨⟨t842, t843⟩, A20, H⟩ := Option.bind_eq_some_iff.mp H
 try dsimp only at H
 have A2 := Aside0.mk A20
 clear A20
 by_cases c3 : (t843.length : Int) = 0
 ·rw [if_pos c3] at H
  have c3b0 : ((t843.length : Int) == 0) = true := beq_iff_eq.mpr c3
  have c3b1 : ((t843.length : Int) != 0) = false := bne_eq_false_iff_eq.mpr c3
  clear c3
  obtain rfl := Option.some.inj H
  go_enter Try.func44, Try.ntmps44
  go_wp2_with (first | ((with_reducible refine gate_dst (N := 1) rfl ?_); refine box_event ?hg (N := 1) ?hd (cs := #[.bool a0_0, .slice A0_1 l0_1.length c0_1]) (t := 24) ?hr ?_; (case hd => rfl); (case hg => rfl); (case hr => first | (go_simp; done) | (go_simp; rfl)); intro gb841 hg w4 hbox hb; have BK841 := Aside0.mk (hbox); have GW841 := Aside0.mk (bxLe HB.out hg); have GE841 := GW841; replace HB := Aside0.mk (below_step HB.out hb); clear hb hbox hg; have hcz5_0 : w4.cell? ⟨gb841, 0, none⟩ = some (.bool a0_0) := bc0 BK841.out; have hcz5_1 : w4.cell? ⟨gb841, 1, none⟩ = some (.slice A0_1 l0_1.length c0_1) := bc1 BK841.out; have hfz5_0 := blk_frozen BK841.out 0; have hfz5_1 := blk_frozen BK841.out 1) | ((with_reducible refine gate_callee (f := 54) rfl ?_); refine goL (some 5) Try.func54 [.agg #[.bool a0_0, .slice A0_1 l0_1.length c0_1]] ?_; (with_reducible refine (gudgeonref02_Norm.calls k a0_0 _ _ l0_1 t842 t843 _ ?side1 ?side2 A2.out).mono ?_); (case side1 => exact (Kd.C_below HR0_1.out HB.out)); (case side2 => exact HC0_1.out); rintro e w6 ⟨v844, rfl, ho0, hb⟩; refine ⟨_, rfl, ?_⟩; have HO845 := Aside0.mk (Kd.R_lower ho0 (below_size HB.out)); replace BK841 := Aside0.mk (blk_below BK841.out hb); replace HB := Aside0.mk (below_step HB.out hb)) | ((with_reducible refine gate_dst (N := 3) rfl ?_); refine box_event ?hg (N := 3) ?hd (cs := #[.bool false, .slice none 0 0]) (t := 24) ?hr ?_; (case hd => rfl); (case hg => rfl); (case hr => first | (go_simp; done) | (go_simp; rfl)); intro gb846 hg w7 hbox hb; replace HO845 := Aside0.mk (Kd.R_below HO845.out hb); have BK846 := Aside0.mk (hbox); have GW846 := Aside0.mk (bxLe HB.out hg); have GE846 := GW846; replace HB := Aside0.mk (below_step HB.out hb); have NB841_846 := Aside0.mk (neL BK841.out hg); have NB846_841 := Aside0.mk (neR BK841.out hg); clear hb hbox hg; have hnb8 := NB846_841.out; have hnc8 := NB841_846.out; have hcz9_0 : w7.cell? ⟨gb846, 0, none⟩ = some (.bool false) := bc0 BK846.out; have hcz9_1 : w7.cell? ⟨gb846, 1, none⟩ = some (.slice none 0 0) := bc1 BK846.out; have hfz9_0 := blk_frozen BK846.out 0; have hfz9_1 := blk_frozen BK846.out 1; obtain ⟨Ao10, co10, eo10⟩ := Kd.R_slice HO845.out; subst eo10))
  go_ret
  exact ⟨by first | rfl | (simp [errW_none, errW_some] <;> rfl) | (refine congrArg (fun z_ => Ending.returned (Value.bool z_)) (decide_eq_decide.mpr ?_); unfold wrap64; omega) | (simp [*, errW_none, errW_some] <;> rfl), by repeat first | exact HB.out | refine bxSet ?_ (by assumption) | apply below_alloc | apply pw_below_drewN⟩
 ·rw [if_neg c3] at H
  have c3b0 : ((t843.length : Int) == 0) = false := beq_eq_false_iff_ne.mpr c3
  have c3b1 : ((t843.length : Int) != 0) = true := bne_iff_ne.mpr c3
  have c3b2 : ¬ (t843 = []) := fun h_ => c3 (by rw [h_]; rfl)
  by_cases c11 : t842 = true
  ·subst c11
   rw [if_pos rfl] at H
   obtain rfl := Option.some.inj H
   go_enter Try.func44, Try.ntmps44
   go_wp2_with (first | ((with_reducible refine gate_dst (N := 1) rfl ?_); refine box_event ?hg (N := 1) ?hd (cs := #[.bool a0_0, .slice A0_1 l0_1.length c0_1]) (t := 24) ?hr ?_; (case hd => rfl); (case hg => rfl); (case hr => first | (go_simp; done) | (go_simp; rfl)); intro gb841 hg w12 hbox hb; have BK841 := Aside0.mk (hbox); have GW841 := Aside0.mk (bxLe HB.out hg); have GE841 := GW841; replace HB := Aside0.mk (below_step HB.out hb); clear hb hbox hg; have hcz13_0 : w12.cell? ⟨gb841, 0, none⟩ = some (.bool a0_0) := bc0 BK841.out; have hcz13_1 : w12.cell? ⟨gb841, 1, none⟩ = some (.slice A0_1 l0_1.length c0_1) := bc1 BK841.out; have hfz13_0 := blk_frozen BK841.out 0; have hfz13_1 := blk_frozen BK841.out 1) | ((with_reducible refine gate_callee (f := 54) rfl ?_); refine goL (some 5) Try.func54 [.agg #[.bool a0_0, .slice A0_1 l0_1.length c0_1]] ?_; (with_reducible refine (gudgeonref02_Norm.calls k a0_0 _ _ l0_1 true t843 _ ?side1 ?side2 A2.out).mono ?_); (case side1 => exact (Kd.C_below HR0_1.out HB.out)); (case side2 => exact HC0_1.out); rintro e w14 ⟨v844, rfl, ho0, hb⟩; refine ⟨_, rfl, ?_⟩; have HO845 := Aside0.mk (Kd.R_lower ho0 (below_size HB.out)); replace BK841 := Aside0.mk (blk_below BK841.out hb); replace HB := Aside0.mk (below_step HB.out hb)) | ((with_reducible refine gate_dst (N := 3) rfl ?_); refine box_event ?hg (N := 3) ?hd (cs := #[.bool false, .slice none 0 0]) (t := 24) ?hr ?_; (case hd => rfl); (case hg => rfl); (case hr => first | (go_simp; done) | (go_simp; rfl)); intro gb846 hg w15 hbox hb; replace HO845 := Aside0.mk (Kd.R_below HO845.out hb); have BK846 := Aside0.mk (hbox); have GW846 := Aside0.mk (bxLe HB.out hg); have GE846 := GW846; replace HB := Aside0.mk (below_step HB.out hb); have NB841_846 := Aside0.mk (neL BK841.out hg); have NB846_841 := Aside0.mk (neR BK841.out hg); clear hb hbox hg; have hnb16 := NB846_841.out; have hnc16 := NB841_846.out; have hcz17_0 : w15.cell? ⟨gb846, 0, none⟩ = some (.bool false) := bc0 BK846.out; have hcz17_1 : w15.cell? ⟨gb846, 1, none⟩ = some (.slice none 0 0) := bc1 BK846.out; have hfz17_0 := blk_frozen BK846.out 0; have hfz17_1 := blk_frozen BK846.out 1; obtain ⟨Ao18, co18, eo18⟩ := Kd.R_slice HO845.out; subst eo18))
   go_ret
   exact ⟨by first | rfl | (simp [errW_none, errW_some] <;> rfl) | (refine congrArg (fun z_ => Ending.returned (Value.bool z_)) (decide_eq_decide.mpr ?_); unfold wrap64; omega) | (simp [*, errW_none, errW_some] <;> rfl), by repeat first | exact HB.out | refine bxSet ?_ (by assumption) | apply below_alloc | apply pw_below_drewN⟩
  ·replace c11 := Bool.eq_false_iff.mpr c11
   subst c11
   rw [if_neg (show ¬ (false = true) by decide)] at H
   obtain rfl := Option.some.inj H
   go_enter Try.func44, Try.ntmps44
   go_wp2_with (first | ((with_reducible refine gate_dst (N := 1) rfl ?_); refine box_event ?hg (N := 1) ?hd (cs := #[.bool a0_0, .slice A0_1 l0_1.length c0_1]) (t := 24) ?hr ?_; (case hd => rfl); (case hg => rfl); (case hr => first | (go_simp; done) | (go_simp; rfl)); intro gb841 hg w19 hbox hb; have BK841 := Aside0.mk (hbox); have GW841 := Aside0.mk (bxLe HB.out hg); have GE841 := GW841; replace HB := Aside0.mk (below_step HB.out hb); clear hb hbox hg; have hcz20_0 : w19.cell? ⟨gb841, 0, none⟩ = some (.bool a0_0) := bc0 BK841.out; have hcz20_1 : w19.cell? ⟨gb841, 1, none⟩ = some (.slice A0_1 l0_1.length c0_1) := bc1 BK841.out; have hfz20_0 := blk_frozen BK841.out 0; have hfz20_1 := blk_frozen BK841.out 1) | ((with_reducible refine gate_callee (f := 54) rfl ?_); refine goL (some 5) Try.func54 [.agg #[.bool a0_0, .slice A0_1 l0_1.length c0_1]] ?_; (with_reducible refine (gudgeonref02_Norm.calls k a0_0 _ _ l0_1 false t843 _ ?side1 ?side2 A2.out).mono ?_); (case side1 => exact (Kd.C_below HR0_1.out HB.out)); (case side2 => exact HC0_1.out); rintro e w21 ⟨v844, rfl, ho0, hb⟩; refine ⟨_, rfl, ?_⟩; have HO845 := Aside0.mk (Kd.R_lower ho0 (below_size HB.out)); replace BK841 := Aside0.mk (blk_below BK841.out hb); replace HB := Aside0.mk (below_step HB.out hb)) | ((with_reducible refine gate_dst (N := 3) rfl ?_); refine box_event ?hg (N := 3) ?hd (cs := #[.bool false, .slice none 0 0]) (t := 24) ?hr ?_; (case hd => rfl); (case hg => rfl); (case hr => first | (go_simp; done) | (go_simp; rfl)); intro gb846 hg w22 hbox hb; replace HO845 := Aside0.mk (Kd.R_below HO845.out hb); have BK846 := Aside0.mk (hbox); have GW846 := Aside0.mk (bxLe HB.out hg); have GE846 := GW846; replace HB := Aside0.mk (below_step HB.out hb); have NB841_846 := Aside0.mk (neL BK841.out hg); have NB846_841 := Aside0.mk (neR BK841.out hg); clear hb hbox hg; have hnb23 := NB846_841.out; have hnc23 := NB841_846.out; have hcz24_0 : w22.cell? ⟨gb846, 0, none⟩ = some (.bool false) := bc0 BK846.out; have hcz24_1 : w22.cell? ⟨gb846, 1, none⟩ = some (.slice none 0 0) := bc1 BK846.out; have hfz24_0 := blk_frozen BK846.out 0; have hfz24_1 := blk_frozen BK846.out 1; obtain ⟨Ao25, co25, eo25⟩ := Kd.R_slice HO845.out; subst eo25))
   go_ret
   exact ⟨by first | rfl | (simp [errW_none, errW_some] <;> rfl) | (refine congrArg (fun z_ => Ending.returned (Value.bool z_)) (decide_eq_decide.mpr ?_); unfold wrap64; omega) | (simp [*, errW_none, errW_some] <;> rfl), by repeat first | exact HB.out | refine bxSet ?_ (by assumption) | apply below_alloc | apply pw_below_drewN⟩

end Go.Proofs.Ytdicjemjmlbmlaa.PA
/- Written by a program of this session, wip/tools/patch_print.py, over the kit's print of the loaded functions. -/
namespace Go.Proofs.Ytdicjemjmlbmlaa.H
end Go.Proofs.Ytdicjemjmlbmlaa.H
namespace Go.Proofs.Ytdicjemjmlbmlaa.PA
open Go.RowKit Go.Proofs.YtdicjemjmlbmlaaW.PrintWords Go.Proofs.YtdicjemjmlbmlaaW.PrintLast Go.Proofs.YtdicjemjmlbmlaaW.PrintMore Go.Proofs.Ytdicjemjmlbmlaa.H
attribute [local go_sem] max2_int min2_int max_two min_two max_three min_three max_four min_four   -- for this text's walks alone
attribute [local go_sem] box_twice
set_option linter.unusedVariables false
set_option linter.unusedSimpArgs false

/-! ### gudgeonref13_divisor: function 45 -/
/-! ### gudgeonref01_DivMod: function 74 -/
/-! ### gudgeonref02_Neg: function 61 -/
def gudgeonref02_Neg.f (k : Nat) (a0_0 : Bool) (l0_1 : List Int) : Option (Bool × List Int) := (gudgeonref02_Norm.f k (!a0_0) l0_1).bind fun bt895 => (some (bt895.1, bt895.2))
set_option maxHeartbeats 8000000 in
set_option maxRecDepth 100000 in
theorem gudgeonref02_Neg.calls (k : Nat) (a0_0 : Bool) (A0_1 : Option Addr) (c0_1 : Nat) (l0_1 : List Int) (r1 : Bool) (r2 : List Int) (w : World) (hr0_1 : Kd.C (Kd.int .u32) w A0_1 l0_1.length l0_1) (hc0_1 : l0_1.length ≤ c0_1) (h : gudgeonref02_Neg.f k a0_0 l0_1 = some (r1, r2)) :
  Calls Try.prog 61 #[.agg #[.bool a0_0, .slice A0_1 l0_1.length c0_1]] w fun e w' => ∃ v1_ : Value, e = .returned (.agg #[.bool r1, v1_]) ∧ Kd.R (Kd.int .u32) 81 w' w.heap.size (fun _ => True) v1_ r2 ∧ Below w.heap.size w w' := by
 have hu24 := Try.underlying24
 have HR0_1 := Aside0.mk hr0_1
 have HC0_1 := Aside0.mk hc0_1
 clear hr0_1 hc0_1
 have HB := Aside0.mk (Below.refl w.heap.size w)
 have H : ((gudgeonref02_Norm.f k (!a0_0) l0_1).bind fun bt895 => (some (bt895.1, bt895.2))) = some (r1, r2) := h
 clear h
 replace H := Option.bind_eq_some_iff.mp H
 obtain ⟨⟨t895, t896⟩, A20, H⟩ := H
 replace H : (some (t895, t896)) = some (r1, r2) := H
 have A2 := Aside0.mk A20
 clear A20
 simp only [Option.some.injEq, Prod.mk.injEq] at H
 obtain ⟨rfl, rfl⟩ := H
 go_enter Try.func61, Try.ntmps61
 go_wp2_with (first | ((with_reducible refine gate_dst (N := 1) rfl ?_); refine box_event ?hg (N := 1) ?hd (cs := #[.bool a0_0, .slice A0_1 l0_1.length c0_1]) (t := 24) ?hr ?_; (case hd => rfl); (case hg => rfl); (case hr => first | (go_simp; done) | (go_simp; rfl) | (go_simp; simp only [IntKind.wrap_u8, IntKind.wrap_u32]; congr 4; omega) | (go_simp; simp only [IntKind.wrap_u8, IntKind.wrap_u32]; congr 5; omega)); intro gb893 hg w3 hbox hb; have n0_ := Aside0.mk (below_step (by repeat (first | (with_reducible first | exact HB.out | apply below_alloc | apply pw_below_drewN | apply below_drew1) | exact HB.out)) hb); have n1_ := Aside0.mk (hbox); have n2_ := Aside0.mk ((by rw [hg]; exact (below_size (by repeat (first | (with_reducible first | exact HB.out | apply below_alloc | apply pw_below_drewN | apply below_drew1) | exact HB.out))) : w.heap.size ≤ gb893)); have n3_ := Aside0.mk ((by rw [hg]; exact (below_size (by repeat (first | (with_reducible first | exact HB.out | apply below_alloc | apply pw_below_drewN | apply below_drew1) | exact HB.out))) : w.heap.size ≤ gb893)); clear HB; have HB := n0_; have BK893 := n1_; have GW893 := n2_; have GE893 := n3_; clear n0_ n1_ n2_ n3_; clear hb hbox hg) | ((with_reducible refine gate_dst (N := 2) rfl ?_); refine box_event ?hg (N := 2) ?hd (cs := #[.bool false, .slice none 0 0]) (t := 24) ?hr ?_; (case hd => rfl); (case hg => rfl); (case hr => first | (go_simp; done) | (go_simp; rfl) | (go_simp; simp only [IntKind.wrap_u8, IntKind.wrap_u32]; congr 4; omega) | (go_simp; simp only [IntKind.wrap_u8, IntKind.wrap_u32]; congr 5; omega)); intro gb894 hg w4 hbox hb; have n0_ := Aside0.mk (blk_below (g := gb893) (o := .cells #[.bool a0_0, .slice A0_1 l0_1.length c0_1] 24 (0, 0)) (by (with_reducible repeat (first | refine blk_drewN ?_ _ | refine blk_drew ?_ | refine blk_alloc ?_ _)); exact BK893.out) hb); have n1_ := Aside0.mk (below_step (by repeat (first | (with_reducible first | exact HB.out | apply below_alloc | apply pw_below_drewN | apply below_drew1 | refine below_set ?_ GE893.out) | exact HB.out)) hb); have n2_ := Aside0.mk (hbox); have n3_ := Aside0.mk ((by rw [hg]; exact (below_size (by repeat (first | (with_reducible first | exact HB.out | apply below_alloc | apply pw_below_drewN | apply below_drew1 | refine below_set ?_ GE893.out) | exact HB.out))) : w.heap.size ≤ gb894)); have n4_ := Aside0.mk ((by rw [hg]; exact (below_size (by repeat (first | (with_reducible first | exact HB.out | apply below_alloc | apply pw_below_drewN | apply below_drew1 | refine below_set ?_ GE893.out) | exact HB.out))) : w.heap.size ≤ gb894)); have n5_ := Aside0.mk ((by rw [hg]; exact Nat.ne_of_lt (blk_lt (g := gb893) (o := .cells #[.bool a0_0, .slice A0_1 l0_1.length c0_1] 24 (0, 0)) (by (with_reducible repeat (first | refine blk_drewN ?_ _ | refine blk_drew ?_ | refine blk_alloc ?_ _)); exact BK893.out)) : gb893 ≠ gb894)); have n6_ := Aside0.mk ((by rw [hg]; exact Nat.ne_of_gt (blk_lt (g := gb893) (o := .cells #[.bool a0_0, .slice A0_1 l0_1.length c0_1] 24 (0, 0)) (by (with_reducible repeat (first | refine blk_drewN ?_ _ | refine blk_drew ?_ | refine blk_alloc ?_ _)); exact BK893.out)) : gb894 ≠ gb893)); clear BK893; clear HB; have BK893 := n0_; have HB := n1_; have BK894 := n2_; have GW894 := n3_; have GE894 := n4_; have NB893_894 := n5_; have NB894_893 := n6_; clear n0_ n1_ n2_ n3_ n4_ n5_ n6_; clear hb hbox hg; have hnb5 := NB893_894.out; have hnc5 := NB894_893.out; have hcz6_0 : w4.cell? ⟨gb893, 0, none⟩ = some (.bool a0_0) := (blk_cell BK893.out 0).trans rfl; have hcz6_1 : w4.cell? ⟨gb893, 1, none⟩ = some (.slice A0_1 l0_1.length c0_1) := (blk_cell BK893.out 1).trans rfl; have hfz6_0 := blk_frozen BK893.out 0; have hfz6_1 := blk_frozen BK893.out 1) | ((with_reducible refine gate_callee (f := 54) rfl ?_); refine goesL_ (some 9) rfl rfl Try.func54 (by kernel_rfl) rfl #[.agg #[.bool (!a0_0), .slice A0_1 l0_1.length c0_1]] rfl (by (try simp only [List.map_toArray, List.map_cons, List.map_nil]); first | done | rfl | (simp only [List.length_drop, List.length_take]; rfl)) ?_; (with_reducible refine (gudgeonref02_Norm.calls k (!a0_0) _ _ l0_1 t895 t896 _ ?side1 ?side2 A2.out).mono ?_); (case side1 => repeat (first | exact (Kd.C_below HR0_1.out HB.out) | (with_reducible refine Kd.C_alloc ?_ _) | (with_reducible refine Kd.C_drewN ?_ _) | (with_reducible refine Kd.C_drew ?_))); (case side2 => exact HC0_1.out); rintro e w7 ⟨v897, rfl, ho0, hb⟩; refine ⟨_, rfl, ?_⟩; have n0_ := Aside0.mk (Kd.R_lower ho0 (below_size (by repeat (first | (with_reducible first | exact HB.out | apply below_alloc | apply pw_below_drewN | apply below_drew1 | refine below_set ?_ GE893.out | refine below_set ?_ GE894.out) | exact HB.out)))); have n1_ := Aside0.mk (blk_below (g := gb893) (o := .cells #[.bool a0_0, .slice A0_1 l0_1.length c0_1] 24 (0, 0)) (by (with_reducible repeat (first | refine blk_drewN ?_ _ | refine blk_drew ?_ | refine blk_alloc ?_ _)); exact BK893.out) hb); have n2_ := Aside0.mk (blk_below (g := gb894) (o := .cells #[.bool false, .slice none 0 0] 24 (0, 0)) (by (with_reducible repeat (first | refine blk_drewN ?_ _ | refine blk_drew ?_ | refine blk_alloc ?_ _)); exact BK894.out) hb); have n3_ := Aside0.mk (below_step (by repeat (first | (with_reducible first | exact HB.out | apply below_alloc | apply pw_below_drewN | apply below_drew1 | refine below_set ?_ GE893.out | refine below_set ?_ GE894.out) | exact HB.out)) hb); clear BK893; clear BK894; clear HB; have HO898 := n0_; have BK893 := n1_; have BK894 := n2_; have HB := n3_; clear n0_ n1_ n2_ n3_; (try clear hb); (try clear hb2); (try clear hk); (try clear hi); (try clear ho0); have hcz8_0 : w7.cell? ⟨gb894, 0, none⟩ = some (.bool false) := (blk_cell BK894.out 0).trans rfl; have hcz8_1 : w7.cell? ⟨gb894, 1, none⟩ = some (.slice none 0 0) := (blk_cell BK894.out 1).trans rfl; have hfz8_0 := blk_frozen BK894.out 0; have hfz8_1 := blk_frozen BK894.out 1; obtain ⟨Ao9, co9, eo9⟩ := Kd.R_slice HO898.out; subst eo9))
 refine bodyPost_ret (results_cell_row rfl _ _ gb894 24 #[.bool t895, .slice Ao9 t896.length co9] (0, 0) _ rfl (by (with_reducible repeat (first | refine blk_drewN ?_ _ | refine blk_drew ?_ | refine blk_alloc ?_ _)); refine blk_put (cs := #[.bool t895, .slice none 0 0]) ?_ 1 _ rfl; (with_reducible repeat (first | refine blk_drewN ?_ _ | refine blk_drew ?_ | refine blk_alloc ?_ _)); refine blk_put (cs := #[.bool false, .slice none 0 0]) ?_ 0 _ rfl; (with_reducible repeat (first | refine blk_drewN ?_ _ | refine blk_drew ?_ | refine blk_alloc ?_ _)); exact BK894.out) Try.underlying24 rfl (by kernel_rfl)) rfl ?_
 exact ⟨_, by first | rfl | (simp [errW_none, errW_some] <;> rfl) | (simp [*, errW_none, errW_some] <;> rfl), by (with_reducible repeat (first | apply Kd.R_alloc | apply Kd.R_drewN | apply Kd.R_drew)); exact Kd.R_mono (Kd.R_far (p := ⟨gb894, 1, none⟩) (Kd.R_far (p := ⟨gb894, 0, none⟩) (Kd.R_types HO898.out BK894.out (by decide)) (fun _ hk => hk.2) (.bool t895)) (fun _ hk => hk.2) (.slice Ao9 t896.length co9)) (fun _ hk => trivial), by repeat (first | (with_reducible first | exact HB.out | apply below_alloc | apply pw_below_drewN | apply below_drew1 | refine below_set ?_ GE893.out | refine below_set ?_ GE894.out) | exact HB.out)⟩

/-! ### gudgeonref02_Sub: function 75 -/
end Go.Proofs.Ytdicjemjmlbmlaa.PA
/- What the reference's signs and differences of whole are, as numbers (WhoC's, for a seat without the laws of whole). -/
namespace Go.Proofs.Ytdicjemjmlbmlaa.S
set_option linter.unusedVariables false
set_option linter.unusedSimpArgs false
open Go.RowKit Go.Proofs.Ytdicjemjmlbmlaa.V Go.Proofs.Ytdicjemjmlbmlaa.PA Go.Proofs.Ytdicjemjmlbmlaa.H Go.Proofs.YtdicjemjmlbmlaaW.PrintWords Go.Proofs.YtdicjemjmlbmlaaW.PrintLast Go.Proofs.YtdicjemjmlbmlaaW.PrintMore

theorem rNeg_ev (b : Bool) (l : List Int) (h : Lim l) (hs : SZ l) : Ev (fun k => gudgeonref02_Neg.f k b l) (W (-wv b l)) := by
 have := rNorm_ev (!b) l h hs
 rw [show wv (!b) l = -wv b l by unfold wv; cases b <;> simp] at this
 exact Ev.congr (fun k => rfl) (pair_ev this)
theorem rSign_ev (b : Bool) (l : List Int) (h : Lim l) (hs : SZ l) : Ev (fun k => gudgeonref02_Sign.f k b l) (sg (wv b l)) := by
 refine Ev.congr (fun k => rfl) (Ev.bind (rNorm_ev b l h hs) ?_)
 generalize wv b l = z
 have d := dig_az z
 by_cases h0 : z = 0
 ·refine evP (show ((dig (az z)).length : Int) = 0 by have : ¬ ((dig (az z)).length : Int) > 0 := fun y => d.1 y h0; omega) (evR ?_)
  subst h0; rfl
 ·refine evN (show ¬ ((dig (az z)).length : Int) = 0 by have := d.2 h0; omega) ?_
  by_cases h1 : z < 0
  ·refine evP (decide_eq_true h1) (evR ?_)
   unfold sg; rw [if_pos h1]
  ·refine evN (by rw [show (W z).1 = false from decide_eq_false h1]; decide) (evR ?_)
   unfold sg; rw [if_neg h1, if_pos (by omega)]
end Go.Proofs.Ytdicjemjmlbmlaa.S
/- The reference's At. -/
namespace Go.Proofs.Ytdicjemjmlbmlaa.H
set_option linter.unusedSimpArgs false
set_option linter.unusedVariables false
open Go.RowKit Go.Proofs.YtdicjemjmlbmlaaW.PrintWords Go.Proofs.YtdicjemjmlbmlaaW.PrintLast Go.Proofs.YtdicjemjmlbmlaaW.PrintMore Go.Proofs.Ytdicjemjmlbmlaa.PA Go.Proofs.Ytdicjemjmlbmlaa.V Go.Proofs.Ytdicjemjmlbmlaa.S
theorem AO.of {w w' : World} {e : Ending} {rb : Bool} {rl : List Int} (h : ∃ v1_ : Value, e = .returned (.agg #[.bool rb, v1_]) ∧ Kd.R (Kd.int .u32) 81 w' w.heap.size (fun _ => True) v1_ rl ∧ Below w.heap.size w w') : AO w rb rl e w' := by
  obtain ⟨v, rfl, ho, hb⟩ := h
  obtain ⟨A, c, rfl, hr⟩ := OI.of ho (Nat.le_refl _)
  exact ⟨A, c, rfl, hr, hb⟩
theorem q_rAdd {w : World} {k : Nat} {b b' : Bool} {A A' : Option Addr} {c c' : Nat} {l l' : List Int} {rb : Bool} {rl : List Int} (h1 : RI w A c l) (h2 : RI w A' c' l') (h : gudgeonref02_Add.f k b l b' l' = some (rb, rl)) :
    Calls Try.prog 55 #[.agg #[.bool b, .slice A l.length c], .agg #[.bool b', .slice A' l'.length c']] w (AO w rb rl) := (gudgeonref02_Add.calls k b A c l b' A' c' l' rb rl w h1.r h1.s h2.r h2.s h).mono (fun _ _ h => AO.of h)
theorem q_rOfO {w : World} {k : Nat} {x : Int} {rb : Bool} {rl : List Int} (h : gudgeonref02_Of.f k x = some (rb, rl)) : Calls Try.prog 32 #[.int .i64 x] w (AO w rb rl) := (gudgeonref02_Of.calls k x rb rl w h).mono (fun _ _ h => AO.of h)
theorem q_rSign {w : World} {k : Nat} {b : Bool} {A : Option Addr} {c : Nat} {l : List Int} {n : Int} (h1 : RI w A c l) (h : gudgeonref02_Sign.f k b l = some n) :
    Calls Try.prog 44 #[.agg #[.bool b, .slice A l.length c]] w fun e w' => e = .returned (.int .i64 n) ∧ Below w.heap.size w w' := gudgeonref02_Sign.calls k b A c l n w h1.r h1.s h
theorem rOf0 : ∃ k, gudgeonref02_Of.f k 0 = some ((W 0).1, (W 0).2) := by
  have h : Ev (fun k => gudgeonref02_Of.f k 0) (false, []) := Ev.of (fun k => gudgeonref02_Of.mono _ k) (k := 300) (by kernel_rfl)
  have e : W 0 = (false, []) := by unfold W az; simp [dig, digN]
  rw [e]
  exact h.rounds
set_option maxHeartbeats 8000000 in
set_option maxRecDepth 100000 in
theorem q_rAt {w : World} {b : Bool} {A B0 : Option Addr} {c d : Nat} {l : List Int} {p : List S46} (v : Int) {m n : Nat} (h1 : RI w A c l) (h2 : RP w B0 d p) (hs : Small m n l p) (hm : m ≤ 1000) (hn : n ≤ 1000) :
    Calls Try.prog 29 #[.agg #[.bool b, .slice A l.length c, .slice B0 p.length d], .int .i64 v] w (AO w (W (coef (p.map prM) v)).1 (W (coef (p.map prM) v)).2) := by
  have mixed : Try.prog.follows Departure.mixedOrders = true := by kernel_rfl
  have hu27 := Try.underlying27
  have hu24 := Try.underlying24
  have hu46 := Try.underlying46
  obtain ⟨rs, hp, hr, hd⟩ := raws h2.r
  have hnum := hs.num
  have hlm : ∀ x ∈ rs, Lim x.xs ∧ x.xs.length ≤ n := fun x hx => hs.each (toM x) (by rw [← hp]; exact List.mem_map_of_mem hx)
  have hpr : p.map prM = rs.map prR := by rw [← hp, pr_toM]
  have hln : rs.length = p.length := by rw [← hp, List.length_map]
  have hbq : BQ n (rs.map prR) := hpr ▸ hs.bq
  obtain ⟨k0, hk0⟩ := rOf0
  have HOF := Aside0.mk hk0
  rw [hpr]
  generalize hN : p.length = N at *
  have HR := Aside0.mk hr
  have HD := Aside0.mk hd
  have HM := Aside0.mk hlm
  have HLN := Aside0.mk (And.intro hln hnum)
  have HBQ := Aside0.mk hbq
  have HBD := Aside0.mk (And.intro hm hn)
  clear h1 h2 hr hd hlm hln hnum hpr hs hbq hp hN hm hn hk0
  go_enter Try.func29, Try.ntmps29
  go_wp2_with (first
    | ((with_reducible refine gate_dst (N := 2) rfl ?_); refine box_event ?hg (N := 2) ?hd (cs := #[.bool b, .slice A l.length c, .slice B0 N d]) (t := 27) ?hr ?_; (case hd => rfl); (case hg => rfl); (case hr => first | (go_simp; done) | (go_simp; rfl)); intro gA hg w1 hbox hb; have KA := Aside0.mk hbox; have HB := Aside0.mk hb; clear hg hbox hb)
    | ((with_reducible refine gate_dst (N := 4) rfl ?_); refine box_event ?hg (N := 4) ?hd (cs := #[.bool false, .slice none 0 0]) (t := 24) ?hr ?_; (case hd => rfl); (case hg => rfl); (case hr => first | (go_simp; done) | (go_simp; rfl)); intro gR hg w2 hbox hb; have KA := Aside0.mk (blk_below KA.out hb); have GR := Aside0.mk (show w.heap.size ≤ gR by rw [hg]; exact HB.out.size); have HB := Aside0.mk (below_step HB.out hb); have KR := Aside0.mk hbox; clear hg hbox hb)
    | (go_at_call 32; (with_reducible refine (q_rOfO HOF.out).mono ?_); rintro e w3 ⟨A3, c3, rfl, o3, hb⟩; have KA := Aside0.mk (blk_below KA.out hb); have KR := Aside0.mk (blk_below KR.out hb); have O3 := Aside0.mk (OI.mk (Kd.R_lower o3.o HB.out.size) : OI w3 w.heap.size A3 c3 _); have HB := Aside0.mk (below_step HB.out hb); clear o3 hb)
    | ((with_reducible refine gate_dst (N := 5) rfl ?_); refine box_event ?hg (N := 5) ?hd (cs := #[.bool false, .slice none 0 0]) (t := 24) ?hr ?_; (case hd => rfl); (case hg => rfl); (case hr => first | (go_simp; done) | (go_simp; rfl)); intro gN hg w4 hbox hb; have KN := Aside0.mk hbox; have HN := Aside0.mk hb; have cN := blk_all hbox; have fN := frz_all hbox; have cA := blk_all (blk_below KA.out hb); have nAN : gA ≠ gN := (by rw [hg]; exact Nat.ne_of_lt (blk_lt KA.out)); have nNA : gN ≠ gA := (fun e => nAN e.symm); have GN := Aside0.mk (show w3.heap.size ≤ gN by rw [hg]; exact Nat.le_refl _); clear hg hbox hb))
  go_loopg [6] (N + 1) (fun kq v6 wr => ∃ (i : Int) (nb : Bool) (An : Option Addr) (cn : Nat) (nl : List Int), v6 = .int .i64 i ∧ Aside0 (0 ≤ i ∧ i ≤ (N : Int)) ∧ Aside0 ((N : Int) - i < (kq : Int)) ∧ Aside0 (W (coef ((rs.take i.toNat).map prR) v) = (nb, nl)) ∧ Aside0 (wr.heap[gN]? = some (.cells #[.bool nb, .slice An nl.length cn] 24 (0, 0))) ∧ Aside0 (OI wr w.heap.size An cn nl) ∧ Aside0 (Below w3.heap.size w3 wr))
  case atStart =>
    exact ⟨0, _, A3, c3, _, rfl, ⟨Int.le_refl 0, by omega⟩, ⟨by omega⟩, ⟨rfl⟩, ⟨blk_put2 KN.out _ _⟩, ⟨(O3.out.b HN.out).set2 KN.out (by decide) _ _⟩, ⟨below_set2 HN.out GN.out _ _⟩⟩
  case round =>
    clear cN fN cA nAN nNA
    obtain ⟨i, nb, An, cn, nl, rfl, HI, HQ, HW, BN, ON, HBr⟩ := hrel
    have cN := blk_all BN.out
    have fN := frz_all BN.out
    cases gk with
    | zero => exact absurd HQ.out (by have := HI.out; omega)
    | succ k1 =>
    by_cases hc : i < (N : Int)
    · obtain ⟨ad, x, eA, hx, hx0, hx1, hx2⟩ := cM_at HR.out i HI.out.1 hc
      cases eA
      have hw := below_step HB.out HBr.out
      have X0 := pw_cell_below hw hx0
      have X1 := pw_cell_below hw hx1
      have X2 := pw_cell_below hw hx2
      have hmem := List.mem_of_getElem? hx
      obtain ⟨xv, xb, XA, xc, xl⟩ := x
      dsimp only at X0 X1 X2
      have LX := Aside0.mk (show RI wr XA xc xl from ⟨((HD.out _ hmem).below hw).2, ((HD.out _ hmem).below hw).1⟩)
      have hlx : Lim xl ∧ xl.length ≤ n := HM.out _ hmem
      have hcB : B 2000 (coef ((rs.take i.toNat).map prR) v) := (coef_B _ v (fun y hy => HBQ.out y (by rw [← List.take_append_drop i.toNat rs, List.map_append]; exact List.mem_append_left _ hy))).mono (by have h1 := HLN.out; have h2 := HBD.out; rw [List.length_map, List.length_take]; omega)
      have e1 := rAdd_ev (W (coef ((rs.take i.toNat).map prR) v)).1 xb (W (coef ((rs.take i.toNat).map prR) v)).2 xl (W_lim _) hlx.1 (by have := hcB.len; omega) (by have := hlx.2; have := HBD.out; omega)
      rw [wv_W, HW.out] at e1
      obtain ⟨ka, hka⟩ := e1.rounds
      have hsn : coef ((rs.take (i + 1).toNat).map prR) v = coef ((rs.take i.toNat).map prR) v + if xv = v then wv xb xl else 0 := by
        rw [drop_at prR rs i HI.out.1 _ hx, coef_snoc]; rfl
      have hwi : wrap64 (i + 1) = i + 1 := by
        have h1 := HI.out
        have h2 := HLN.out
        have h3 := HBD.out
        unfold wrap64; omega
      have HWI := Aside0.mk hwi
      have HSN := Aside0.mk hsn
      have hi1 : 0 ≤ i + 1 ∧ i + 1 ≤ (N : Int) := by have h1 := HI.out; omega
      have hq1 : (N : Int) - (i + 1) < (k1 : Int) := by have h1 := HQ.out; omega
      have HI1 := Aside0.mk hi1
      have HQ1 := Aside0.mk hq1
      have d1 : decide (i < (N : Int)) = true := decide_eq_true hc
      have d2 : decide (0 ≤ i) = true := decide_eq_true HI.out.1
      have p1 : (0 ≤ i) = True := eq_true HI.out.1
      have p2 : (i < (N : Int)) = True := eq_true hc
      generalize hS : W (coef ((rs.take i.toNat).map prR) v + wv xb xl) = Ws at hka
      obtain ⟨sb, sl⟩ := Ws
      have HKA := Aside0.mk hka
      have HS := Aside0.mk hS
      clear hx0 hx1 hx2 hw hmem hx hc hlx hcB e1 hka hsn hwi hi1 hq1 hS
      have KAr := Aside0.mk (blk_below KA.out HBr.out)
      have cA := blk_all KAr.out
      by_cases hv : xv = v
      · have d3 : (xv == v) = true := beq_iff_eq.2 hv
        have HV := Aside0.mk hv
        clear hv
        go_wp2_with fail
        go_still_tail 7, (by kernel_rfl)
        change wpList _ _ _ _ _ wr.drew
        have hd := below_drew1 (Below.refl wr.heap.size wr)
        generalize wr.drew = wd at hd ⊢
        go_wp2_with (first
          | (go_at_call 55; (with_reducible refine (q_rAdd (ON.out.r.b hd) (LX.out.b hd) HKA.out).mono ?_); rintro e w6 ⟨A6, c6, rfl, o6, hb⟩; have hx := below_step hd hb; have BN6 := Aside0.mk (blk_below BN.out hx); have O6 := Aside0.mk (OI.mk (Kd.R_lower o6.o (Nat.le_trans (Nat.le_trans HB.out.size HBr.out.size) hd.size)) : OI w6 w.heap.size A6 c6 sl); have HB6 := Aside0.mk (below_step HBr.out hx); clear o6 hb hx cN cA X0 X1 X2; have cN := blk_all BN6.out; have fN := frz_all BN6.out))
        rw [HWI.out]
        go_roundg k1
        case measure => omega
        case rel => exact ⟨i + 1, sb, A6, c6, sl, rfl, HI1, HQ1, ⟨by rw [HSN.out, if_pos HV.out, HS.out]⟩, ⟨blk_put2 BN6.out _ _⟩, ⟨O6.out.set2 BN6.out (by decide) _ _⟩, ⟨below_set (below_set HB6.out GN.out) GN.out⟩⟩
      · have d3 : (xv == v) = false := beq_eq_false_iff_ne.2 hv
        have HV := Aside0.mk hv
        clear hv
        go_wp2
        rw [HWI.out]
        go_roundg k1
        case measure => omega
        case rel => exact ⟨i + 1, nb, An, cn, nl, rfl, HI1, HQ1, ⟨by rw [HSN.out, if_neg HV.out, Int.add_zero, HW.out]⟩, BN, ON, HBr⟩
    · have hi : i.toNat = rs.length := by have h1 := HI.out; have h2 := HLN.out.1; omega
      have d1 : decide (i < (N : Int)) = false := decide_eq_false hc
      have BR := Aside0.mk (blk_below KR.out HBr.out)
      have KAr := Aside0.mk (blk_below KA.out HBr.out)
      have cA := blk_all KAr.out
      have cR := blk_all BR.out
      have fR := frz_all BR.out
      have HF := Aside0.mk hi
      clear hc hi
      go_wp2
      refine bodyPost_ret (results_cell_row rfl _ _ gR 24 #[.bool nb, .slice An nl.length cn] (0, 0) _ rfl (blk_put2 BR.out _ _) Try.underlying24 rfl (by kernel_rfl)) rfl ?_
      have hw := HW.out
      rw [HF.out, List.take_length] at hw
      rw [hw]
      exact ⟨An, cn, rfl, ON.out.set2 BR.out (by decide) _ _, below_set2 (below_step HB.out HBr.out) GR.out _ _⟩
end Go.Proofs.Ytdicjemjmlbmlaa.H
/- The reference's own form: the least variable that is above the last one, again and again. -/
namespace Go.Proofs.Ytdicjemjmlbmlaa.S
set_option linter.unusedVariables false
set_option linter.unusedSimpArgs false
open Go.RowKit Go.Proofs.Ytdicjemjmlbmlaa.V Go.Proofs.Ytdicjemjmlbmlaa.PA Go.Proofs.Ytdicjemjmlbmlaa.H Go.Proofs.YtdicjemjmlbmlaaW.PrintWords Go.Proofs.YtdicjemjmlbmlaaW.PrintLast Go.Proofs.YtdicjemjmlbmlaaW.PrintMore
/-- Is a variable above the last one? -/
def abv (dn : Bool) (last v : Int) : Bool := !dn || decide (v > last)
def scan1 (dn : Bool) (last : Int) (a : Bool × Int) (v : Int) : Bool × Int := if (abv dn last v && (!a.1 || decide (v < a.2))) = true then (true, v) else a
def scanV (dn : Bool) (last : Int) (l : List Int) : Bool × Int := l.foldl (scan1 dn last) (false, 0)
theorem scan_snoc (dn : Bool) (last : Int) (l : List Int) (v : Int) : scanV dn last (l ++ [v]) = scan1 dn last (scanV dn last l) v := by unfold scanV; rw [List.foldl_append]; rfl
def ScanI (dn : Bool) (last : Int) (l : List Int) (a : Bool × Int) : Prop := (a = (false, 0) ∧ ∀ v ∈ l, abv dn last v = false) ∨ (a.1 = true ∧ a.2 ∈ l ∧ abv dn last a.2 = true ∧ ∀ v ∈ l, abv dn last v = true → a.2 ≤ v)
theorem scan_step {dn : Bool} {last : Int} {l : List Int} {a : Bool × Int} (x : Int) (h : ScanI dn last l a) : ScanI dn last (l ++ [x]) (scan1 dn last a x) := by
  rcases h with ⟨rfl, h2⟩ | ⟨h1, h2, h3, h4⟩
  · by_cases hx : abv dn last x = true
    · refine .inr ?_
      have e1 : scan1 dn last (false, 0) x = (true, x) := by unfold scan1; rw [if_pos (by rw [hx]; rfl)]
      rw [e1]
      refine ⟨rfl, by simp, hx, fun v hv ha => ?_⟩
      rcases List.mem_append.1 hv with hv | hv
      · rw [h2 v hv] at ha; exact absurd ha (by decide)
      · rw [List.mem_singleton.1 hv]; exact Int.le_refl _
    · refine .inl ?_
      rw [Bool.not_eq_true] at hx
      have e1 : scan1 dn last (false, 0) x = (false, 0) := by unfold scan1; rw [if_neg (by rw [hx, Bool.false_and]; decide)]
      rw [e1]
      refine ⟨rfl, fun v hv => ?_⟩
      rcases List.mem_append.1 hv with hv | hv
      · exact h2 v hv
      · rw [List.mem_singleton.1 hv]; exact hx
  · refine .inr ?_
    obtain ⟨fd, m⟩ := a
    dsimp only at h1 h2 h3 h4
    subst h1
    unfold scan1
    by_cases hx : (abv dn last x && (!true || decide (x < m))) = true
    · rw [if_pos hx]
      rw [Bool.and_eq_true] at hx
      have hlt : x < m := by simpa using hx.2
      refine ⟨rfl, by simp, hx.1, fun v hv ha => ?_⟩
      rcases List.mem_append.1 hv with hv | hv
      · have := h4 v hv ha; dsimp only; omega
      · rw [List.mem_singleton.1 hv]; exact Int.le_refl _
    · rw [if_neg hx]
      refine ⟨rfl, List.mem_append_left _ h2, h3, fun v hv ha => ?_⟩
      rcases List.mem_append.1 hv with hv | hv
      · exact h4 v hv ha
      · rw [List.mem_singleton.1 hv] at ha ⊢
        rw [ha] at hx
        dsimp only
        by_cases hlt : x < m
        · exact absurd (by simp [hlt]) hx
        · omega
theorem scan_inv (dn : Bool) (last : Int) : ∀ (l d : List Int) (a : Bool × Int), ScanI dn last d a → ScanI dn last (d ++ l) (l.foldl (scan1 dn last) a)
  | [], d, a, h => by rw [List.append_nil]; exact h
  | x :: r, d, a, h => by
    have := scan_inv dn last r (d ++ [x]) _ (scan_step x h)
    rw [List.append_assoc] at this
    exact this
/-- What a scan finds: none, or the least. -/
theorem scan_spec (dn : Bool) (last : Int) (l : List Int) : ScanI dn last l (scanV dn last l) := by
  have := scan_inv dn last l [] (false, 0) (.inl ⟨rfl, by simp⟩)
  rwa [List.nil_append] at this
/-- The parts whose variables are not above. -/
def notA (dn : Bool) (last : Int) (p : List (Int × Int)) : List (Int × Int) := p.filter (fun q => !abv dn last q.1)
def cntA (dn : Bool) (last : Int) (l : List Int) : Nat := (l.filter (abv dn last)).length
theorem notA_all {dn : Bool} {last : Int} {p : List (Int × Int)} (h : ∀ v ∈ p.map (·.1), abv dn last v = false) : notA dn last p = p := by
  unfold notA
  rw [List.filter_eq_self]
  intro q hq
  rw [h q.1 (List.mem_map_of_mem hq)]; rfl
theorem notA_none (last : Int) (p : List (Int × Int)) : notA false last p = [] := by
  unfold notA abv
  rw [List.filter_eq_nil_iff]
  intro q _; simp
theorem coef_notA (dn : Bool) (last v : Int) : ∀ p : List (Int × Int), coef (notA dn last p) v = if abv dn last v = true then 0 else coef p v
  | [] => by simp [notA, coef]
  | q :: r => by
    have ih := coef_notA dn last v r
    unfold notA at ih ⊢
    rw [List.filter_cons]
    by_cases hq : abv dn last q.1 = true
    · rw [if_neg (by rw [hq]; decide), ih]
      by_cases hv : abv dn last v = true
      · rw [if_pos hv, if_pos hv]
      · rw [if_neg hv, if_neg hv]
        rw [show coef (q :: r) v = (if q.1 = v then q.2 else 0) + coef r v from rfl, if_neg (fun e => hv (by rw [← e]; exact hq))]
        omega
    · rw [Bool.not_eq_true] at hq
      rw [if_pos (by rw [hq]; rfl)]
      rw [show coef (q :: r) v = (if q.1 = v then q.2 else 0) + coef r v from rfl, show coef (q :: List.filter (fun q => !abv dn last q.1) r) v = (if q.1 = v then q.2 else 0) + coef (List.filter (fun q => !abv dn last q.1) r) v from rfl, ih]
      by_cases hv : abv dn last v = true
      · rw [if_pos hv, if_pos hv, if_neg (fun e => by rw [e, hv] at hq; cases hq)]; rfl
      · rw [if_neg hv, if_neg hv]
/-- The next variable's number goes behind. -/
theorem notA_step {dn : Bool} {last v : Int} {p : List (Int × Int)} (ha : abv dn last v = true) (hm : ∀ u ∈ p.map (·.1), abv dn last u = true → v ≤ u) : normP (notA true v p) = normP (notA dn last p) ++ onev v (coef p v) := by
  have hlt : ∀ x ∈ normP (notA dn last p), x.1 < v := by
    intro x hx
    obtain ⟨y, hy, e⟩ := mem_norm hx
    unfold notA at hy
    rw [List.mem_filter] at hy
    have h2 := hy.2
    unfold abv at ha h2
    cases dn with
    | false => simp at h2
    | true => simp at ha h2; omega
  have hform : Form (normP (notA dn last p) ++ onev v (coef p v)) := by
    have := ins_behind v (coef p v) 0 (normP (notA dn last p)) hlt
    rw [Int.zero_add, show onev v 0 = [] from rfl, List.append_nil] at this
    rw [← this]
    exact form_ins _ _ _ (form_norm _)
  refine form_unique _ _ (form_norm _) hform (fun u => ?_)
  rw [coef_append, coef_norm, coef_norm, coef_notA, coef_notA]
  have h1 : coef (onev v (coef p v)) u = if u = v then coef p v else 0 := by
    unfold onev
    by_cases h : coef p v = 0
    · rw [if_pos h, h]; simp [coef]
    · rw [if_neg h]
      show (if v = u then coef p v else 0) + 0 = _
      by_cases hu : u = v
      · rw [if_pos hu, if_pos hu.symm]; omega
      · rw [if_neg hu, if_neg (fun e => hu e.symm)]; omega
  rw [h1]
  by_cases hu : u = v
  · subst hu
    rw [if_pos ha, if_pos rfl, if_neg (by unfold abv; simp)]; omega
  · rw [if_neg hu]
    by_cases hau : abv dn last u = true
    · rw [if_pos hau]
      by_cases h2 : abv true v u = true
      · rw [if_pos h2]; omega
      · rw [if_neg h2, coef_none p u (fun x hx e => ?_)]; rfl
        have h3 := hm u (e ▸ List.mem_map_of_mem hx) hau
        unfold abv at h2
        simp at h2
        omega
    · rw [if_neg hau]
      have h2 : ¬abv true v u = true := by
        unfold abv at ha hau ⊢
        cases dn with
        | false => simp at hau
        | true => simp at ha hau ⊢; omega
      rw [if_neg h2]; omega
theorem cnt_step {dn : Bool} {last v : Int} {l : List Int} (ha : abv dn last v = true) (hv : v ∈ l) (hm : ∀ u ∈ l, abv dn last u = true → v ≤ u) : cntA true v l < cntA dn last l := by
  unfold cntA
  have hle : ∀ m : List Int, (∀ u ∈ m, abv true v u = true → abv dn last u = true) → (m.filter (abv true v)).length ≤ (m.filter (abv dn last)).length := by
    intro m
    induction m with
    | nil => intro _; exact Nat.le_refl _
    | cons x r ih =>
      intro h
      have ih := ih (fun u hu => h u (List.mem_cons_of_mem _ hu))
      have hx := h x List.mem_cons_self
      rw [List.filter_cons, List.filter_cons]
      by_cases h1 : abv true v x = true
      · rw [if_pos h1, if_pos (hx h1), List.length_cons, List.length_cons]; omega
      · rw [if_neg h1]; split
        · rw [List.length_cons]; omega
        · exact ih
  have himp : ∀ u : Int, abv true v u = true → abv dn last u = true := by
    intro u hu
    unfold abv at ha hu ⊢
    cases dn with
    | false => rfl
    | true => simp at ha hu ⊢; omega
  obtain ⟨a, b, rfl⟩ := List.append_of_mem hv
  rw [List.filter_append, List.filter_append, List.length_append, List.length_append, List.filter_cons, List.filter_cons, if_pos ha, if_neg (by unfold abv; simp), List.length_cons]
  have h1 := hle a (fun u _ => himp u)
  have h2 := hle b (fun u _ => himp u)
  omega
theorem cnt_le (dn : Bool) (last : Int) (l : List Int) : cntA dn last l ≤ l.length := List.length_filter_le _ _
end Go.Proofs.Ytdicjemjmlbmlaa.S
/- The reference's own form. -/
namespace Go.Proofs.Ytdicjemjmlbmlaa.H
set_option linter.unusedSimpArgs false
set_option linter.unusedVariables false
open Go.RowKit Go.Proofs.YtdicjemjmlbmlaaW.PrintWords Go.Proofs.YtdicjemjmlbmlaaW.PrintLast Go.Proofs.YtdicjemjmlbmlaaW.PrintMore Go.Proofs.Ytdicjemjmlbmlaa.PA Go.Proofs.Ytdicjemjmlbmlaa.V Go.Proofs.Ytdicjemjmlbmlaa.S
/-- A sum that stays what it is wherever its rows' blocks do. -/
structure KL (w : World) (A : Option Addr) (c : Nat) (l : List Int) (B : Option Addr) (d : Nat) (p : List S46) : Prop where
  k : ∀ w1 : World, (∀ (k : Nat) (cells : Array Value) (t : Nat), t = 81 ∨ t = 46 → w.heap[k]? = some (Obj.cells cells t (0, 0)) → w1.heap[k]? = w.heap[k]?) → RI w1 A c l ∧ RP w1 B d p
theorem KL.i {w : World} {A B : Option Addr} {c d : Nat} {l : List Int} {p : List S46} (h : KL w A c l B d p) : RI w A c l := (h.k w (fun _ _ _ _ _ => rfl)).1
theorem KL.p {w : World} {A B : Option Addr} {c d : Nat} {l : List Int} {p : List S46} (h : KL w A c l B d p) : RP w B d p := (h.k w (fun _ _ _ _ _ => rfl)).2
theorem KL.keep {w w1 : World} {A B : Option Addr} {c d : Nat} {l : List Int} {p : List S46} (h : KL w A c l B d p) (hm : ∀ (k : Nat) (cells : Array Value) (t : Nat), t = 81 ∨ t = 46 → w.heap[k]? = some (Obj.cells cells t (0, 0)) → w1.heap[k]? = w.heap[k]?) : KL w1 A c l B d p :=
  ⟨fun w2 h2 => h.k w2 (fun k cells t ht hk => (h2 k cells t ht ((hm k cells t ht hk).trans hk)).trans (hm k cells t ht hk))⟩
theorem KL.set3 {w : World} {A B : Option Addr} {c d : Nat} {l : List Int} {p : List S46} (h : KL w A c l B d p) {g : Nat} {cs : Array Value} (hg : w.heap[g]? = some (.cells cs 27 (0, 0))) (x y z : Value) : KL (((w.setCell ⟨g, 0, none⟩ x).setCell ⟨g, 1, none⟩ y).setCell ⟨g, 2, none⟩ z) A c l B d p :=
  h.keep (fun k cells t ht hk => set3_other w g 0 1 2 x y z k (box_ne hg hk (fun e => by rcases ht with rfl | rfl <;> exact absurd e (by decide))))
/-- A number's row and a row of parts that the call has made. -/
theorem KL.mk' {w : World} {base : Nat} {A B : Option Addr} {c d : Nat} {l : List Int} {rs : List RM} (h1 : OI w base A c l) (h2 : Kd.R kM 46 w base (fun _ => True) (.slice B rs.length d) rs) (h3 : ∀ x ∈ rs, OwnK w base x) : KL w A c l B d (rs.map toM) := by
  refine ⟨fun w1 hm => ⟨(OI.mk (h1.o.move (fun k cells hk => hm k cells _ (.inl rfl) hk)) : OI w1 base A c l).r, ?_⟩⟩
  have h4 := kM_move h2 (fun k cells hk => hm k cells _ (.inr rfl) hk)
  exact RP.ofraw (Kd.R_reads' h4).2.2 (Kd.R_reads' h4).2.1 (fun x hx => ((h3 x hx).move (fun k cells hk => hm k cells _ (.inl rfl) hk)).leads)
def AK (w : World) (b : Bool) (l : List Int) (p : List S46) (e : Ending) (w' : World) : Prop := ∃ A c B d, e = .returned (.agg #[.bool b, .slice A l.length c, .slice B p.length d]) ∧ KL w' A c l B d p ∧ Below w.heap.size w w'
theorem q_rNorm {w : World} {k : Nat} {b : Bool} {A : Option Addr} {c : Nat} {l : List Int} {rb : Bool} {rl : List Int} (h1 : RI w A c l) (h : gudgeonref02_Norm.f k b l = some (rb, rl)) : Calls Try.prog 54 #[.agg #[.bool b, .slice A l.length c]] w (AO w rb rl) := (gudgeonref02_Norm.calls k b A c l rb rl w h1.r h1.s h).mono (fun _ _ h => AO.of h)
theorem sg_ne (z : Int) : (sg z != 0) = !decide (z = 0) := by
  by_cases h : z = 0
  · rw [h]; rfl
  · rw [decide_eq_false h]
    exact bne_iff_ne.2 (fun e => h ((show (sg z = 0) ↔ (z = 0) by unfold sg; split <;> (try split) <;> omega).1 e))
set_option maxHeartbeats 8000000 in
set_option maxRecDepth 100000 in
theorem q_rLNorm {w : World} {b : Bool} {A E : Option Addr} {c d : Nat} {l : List Int} {p : List S46} {m n : Nat} (h1 : RI w A c l) (h2 : RP w E d p) (hs : Small m n l p) (hm : m ≤ 1000) (hn : n ≤ 1000) :
    Calls Try.prog 21 #[.agg #[.bool b, .slice A l.length c, .slice E p.length d]] w (AK w (W (wv b l)).1 (W (wv b l)).2 ((normP (p.map prM)).map enP)) := by
  have mixed : Try.prog.follows Departure.mixedOrders = true := by kernel_rfl
  have hu27 := Try.underlying27
  have hu24 := Try.underlying24
  have hu46 := Try.underlying46
  obtain ⟨rs, hp, hr, hd⟩ := raws h2.r
  have hnum := hs.num
  have hpr : p.map prM = rs.map prR := by rw [← hp, pr_toM]
  have hln : rs.length = p.length := by rw [← hp, List.length_map]
  have hbq : BQ n (rs.map prR) := hpr ▸ hs.bq
  obtain ⟨kn, hkn⟩ := (rNorm_ev b l hs.lim (Nat.le_trans hs.len (by omega))).rounds
  have HKN := Aside0.mk (show gudgeonref02_Norm.f kn b l = some ((W (wv b l)).1, (W (wv b l)).2) from hkn)
  generalize (W (wv b l)).1 = nb at *
  generalize (W (wv b l)).2 = nl at *
  have HPR := Aside0.mk hpr
  rw [hpr]
  have R1 := Aside0.mk h1
  have R2 := Aside0.mk h2
  have HS := Aside0.mk hs
  generalize hN : p.length = N at *
  have HPN := Aside0.mk hN
  have HR := Aside0.mk hr
  have HLN := Aside0.mk (And.intro hln hnum)
  have HBQ := Aside0.mk hbq
  have HBD := Aside0.mk (And.intro hm hn)
  clear h1 h2 hr hd hln hnum hpr hs hbq hp hN hm hn hkn
  go_enter Try.func21, Try.ntmps21
  go_wp2_with (first
    | ((with_reducible refine gate_dst (N := 1) rfl ?_); refine box_event ?hg (N := 1) ?hd (cs := #[.bool b, .slice A l.length c, .slice E N d]) (t := 27) ?hr ?_; (case hd => rfl); (case hg => rfl); (case hr => first | (go_simp; done) | (go_simp; rfl)); intro gA hg w1 hbox hb; have KA := Aside0.mk hbox; have HB := Aside0.mk hb; clear hg hbox hb)
    | ((with_reducible refine gate_dst (N := 2) rfl ?_); refine box_event ?hg (N := 2) ?hd (cs := #[.bool false, .slice none 0 0, .slice none 0 0]) (t := 27) ?hr ?_; (case hd => rfl); (case hg => rfl); (case hr => first | (go_simp; done) | (go_simp; rfl)); intro gR hg w2 hbox hb; have KA := Aside0.mk (blk_below KA.out hb); have cA := blk_all KA.out; have GR := Aside0.mk (show w.heap.size ≤ gR by rw [hg]; exact HB.out.size); have HB := Aside0.mk (below_step HB.out hb); have KR := Aside0.mk hbox; clear hg hbox hb)
    | (go_at_call 54; (with_reducible refine (q_rNorm (R1.out.b HB.out) HKN.out).mono ?_); rintro e w3 ⟨A3, c3, rfl, o3, hb⟩; have KA := Aside0.mk (blk_below KA.out hb); have KR := Aside0.mk (blk_below KR.out hb); have O3 := Aside0.mk (OI.mk (Kd.R_lower o3.o HB.out.size) : OI w3 w.heap.size A3 c3 _); have HB := Aside0.mk (below_step HB.out hb); clear o3 hb cA)
    | ((with_reducible refine gate_dst (N := 3) rfl ?_); refine box_event ?hg (N := 3) ?hd (cs := #[.bool false, .slice none 0 0, .slice none 0 0]) (t := 27) ?hr ?_; (case hd => rfl); (case hg => rfl); (case hr => first | (go_simp; done) | (go_simp; rfl)); intro gO hg w4 hbox hb; have KO := Aside0.mk hbox; have HN := Aside0.mk hb; have cO := blk_all hbox; have fO := frz_all hbox; have GO := Aside0.mk (show w3.heap.size ≤ gO by rw [hg]; exact Nat.le_refl _); clear hg hbox hb))
  go_loopg [4, 5] (N + 1) (fun kq v4 v5 wr => ∃ (dn : Bool) (last : Int) (u : Value) (os : List RM), v4 = .bool dn ∧ v5 = .int .i64 last ∧ Aside0 (cntA dn last (rs.map (·.v)) < kq) ∧ Aside0 (os.map toM = (normP (notA dn last (rs.map prR))).map enP) ∧ Aside0 (wr.heap[gO]? = some (.cells #[.bool nb, .slice A3 nl.length c3, u] 27 (0, 0))) ∧ Aside0 (Kd.R kM 46 wr w3.heap.size (fun _ => True) u os) ∧ Aside0 (∀ x ∈ os, OwnK wr w3.heap.size x) ∧ Aside0 (Below w3.heap.size w3 wr))
  case atStart => exact ⟨false, 0, _, [], rfl, rfl, ⟨Nat.lt_succ_of_le (Nat.le_trans (cnt_le _ _ _) (by rw [List.length_map]; exact Nat.le_of_eq HLN.out.1))⟩, ⟨by rw [notA_none]; rfl⟩, ⟨blk_put3 KO.out _ _ _⟩, ⟨Kd.R_nil _ _ _ _ _⟩, ⟨by simp⟩, ⟨below_set3 HN.out GO.out _ _ _⟩⟩
  case round =>
    clear cO fO
    obtain ⟨dn, last, u, os, rfl, rfl, HQ, HO, BO, HU, HK, HBr⟩ := hrel
    obtain ⟨Ao, co, eu⟩ := Kd.R_slice HU.out
    subst eu
    cases gk with
    | zero => exact absurd HQ.out (Nat.not_lt_zero _)
    | succ k1 =>
    have KAr := Aside0.mk (blk_below KA.out HBr.out)
    go_wp2_with fail
    go_loopg [6, 7, 8] (N + 1) (fun kq v6 v7 v8 wi => ∃ (i : Int) (fd : Bool) (vm : Int), v6 = .bool fd ∧ v7 = .int .i64 vm ∧ v8 = .int .i64 i ∧ Aside0 (0 ≤ i ∧ i ≤ (N : Int)) ∧ Aside0 ((N : Int) - i < (kq : Int)) ∧ Aside0 (scanV dn last ((rs.take i.toNat).map (·.v)) = (fd, vm)) ∧ Aside0 (Below wr.heap.size wr wi))
    case atStart => exact ⟨0, false, 0, rfl, rfl, rfl, ⟨Int.le_refl 0, by omega⟩, ⟨by omega⟩, ⟨rfl⟩, ⟨Below.refl _ _⟩⟩
    case round =>
      obtain ⟨i, fd, vm, rfl, rfl, rfl, HI, HQ2, HSC, HBi⟩ := hrel
      have cA := blk_all (blk_below KAr.out HBi.out)
      cases gk with
      | zero => exact absurd HQ2.out (by have := HI.out; omega)
      | succ k2 =>
      by_cases hc : i < (N : Int)
      · obtain ⟨ad, x, eA, hx, hx0, hx1, hx2⟩ := cM_at HR.out i HI.out.1 hc
        cases eA
        have X0 := pw_cell_below (below_step (below_step HB.out HBr.out) HBi.out) hx0
        obtain ⟨xv, xb, XA, xc, xl⟩ := x
        dsimp only at X0
        have hsn : scanV dn last ((rs.take (i + 1).toNat).map (·.v)) = scan1 dn last (fd, vm) xv := by
          rw [drop_at (·.v) rs i HI.out.1 _ hx, scan_snoc, HSC.out]
        have hwi : wrap64 (i + 1) = i + 1 := by
          have h1 := HI.out
          have h2 := HLN.out
          have h3 := HBD.out
          unfold wrap64; omega
        have HWI := Aside0.mk hwi
        have HSN := Aside0.mk hsn
        have HI1 := Aside0.mk (show 0 ≤ i + 1 ∧ i + 1 ≤ (N : Int) by have h1 := HI.out; omega)
        have HQ1 := Aside0.mk (show (N : Int) - (i + 1) < (k2 : Int) by have h1 := HQ2.out; omega)
        have d1 : decide (i < (N : Int)) = true := decide_eq_true hc
        have d2 : decide (0 ≤ i) = true := decide_eq_true HI.out.1
        have p1 : (0 ≤ i) = True := eq_true HI.out.1
        have p2 : (i < (N : Int)) = True := eq_true hc
        clear hx0 hx1 hx2 hx hc hsn hwi
        generalize hg1 : decide (xv > last) = g1
        generalize hg2 : decide (xv < vm) = g2
        have HG := Aside0.mk (And.intro hg1 hg2)
        have hg3 : decide (last < xv) = g1 := hg1
        cases dn <;> cases g1 <;> cases fd <;> cases g2
        all_goals go_wp2
        all_goals rw [HWI.out]
        all_goals go_roundg k2
        all_goals (try (case measure => omega))
        all_goals (case rel => exact ⟨i + 1, _, _, rfl, rfl, rfl, HI1, HQ1, ⟨by rw [HSN.out]; unfold scan1 abv; rw [HG.out.1, HG.out.2]; rfl⟩, HBi⟩)
      · have hi : i.toNat = rs.length := by have h1 := HI.out; have h2 := HLN.out.1; omega
        have d1 : decide (i < (N : Int)) = false := decide_eq_false hc
        have hsc := HSC.out
        rw [hi, List.take_length] at hsc
        have hsp := scan_spec dn last (rs.map (·.v))
        rw [hsc] at hsp
        have hpv : (rs.map prR).map (·.1) = rs.map (·.v) := by rw [List.map_map]; rfl
        have HBw := Aside0.mk (below_step HBr.out HBi.out)
        have BOi := Aside0.mk (blk_below BO.out HBi.out)
        have KAi := Aside0.mk (blk_below KAr.out HBi.out)
        have KRi := Aside0.mk (blk_below KR.out HBw.out)
        have cO := blk_all BOi.out
        have cR := blk_all KRi.out
        have fR := frz_all KRi.out
        clear hc hi hsc
        cases fd with
        | false =>
          have hall : ∀ v ∈ (rs.map prR).map (·.1), abv dn last v = false := by
            rw [hpv]
            rcases hsp with ⟨_, h⟩ | ⟨h, _⟩
            · exact h
            · cases h
          have HAL := Aside0.mk hall
          clear hall hsp hpv
          go_wp2
          refine bodyPost_ret (results_cell_row rfl _ _ gR 27 #[.bool nb, .slice A3 nl.length c3, .slice Ao os.length co] (0, 0) _ rfl (blk_put3 KRi.out _ _ _) Try.underlying27 rfl (by kernel_rfl)) rfl ?_
          have hfin := HO.out
          rw [notA_all HAL.out] at hfin
          rw [← hfin]
          exact ⟨A3, c3, Ao, co, by rw [List.length_map], KL.set3 (KL.mk' (O3.out.b HBw.out) (Kd.R_lower (Kd.R_below HU.out HBi.out) HB.out.size) (fun x hx => ((HK.out x hx).below HBi.out).lower HB.out.size)) KRi.out _ _ _, below_set3 (below_step HB.out HBw.out) GR.out _ _ _⟩
        | true =>
          have hsp2 : vm ∈ rs.map (·.v) ∧ abv dn last vm = true ∧ ∀ v ∈ rs.map (·.v), abv dn last v = true → vm ≤ v := by
            rcases hsp with ⟨h, _⟩ | ⟨_, h⟩
            · cases h
            · exact h
          have hst := notA_step hsp2.2.1 (p := rs.map prR) (by rw [hpv]; exact hsp2.2.2)
          have hcn := cnt_step hsp2.2.1 hsp2.1 hsp2.2.2
          have hB : B 2000 (coef (rs.map prR) vm) := (coef_B _ vm HBQ.out).mono (by have h1 := HLN.out; have h2 := HBD.out; rw [List.length_map]; omega)
          obtain ⟨ks, hks⟩ := (rSign_ev (W (coef (rs.map prR) vm)).1 (W (coef (rs.map prR) vm)).2 (W_lim _) (Nat.le_trans hB.len (by decide))).rounds
          rw [wv_W] at hks
          have hat : ∀ W0 : World, RI W0 A c l → RP W0 E d p → Calls Try.prog 29 #[.agg #[.bool b, .slice A l.length c, .slice E N d], .int .i64 vm] W0 (AO W0 (W (coef (rs.map prR) vm)).1 (W (coef (rs.map prR) vm)).2) := fun W0 r1 r2 => by
            have := q_rAt (b := b) vm r1 r2 HS.out HBD.out.1 HBD.out.2
            rw [HPR.out, HPN.out] at this
            exact this
          have hne := sg_ne (coef (rs.map prR) vm)
          have hen : enP (vm, coef (rs.map prR) vm) = ⟨vm, ⟨(W (coef (rs.map prR) vm)).1, (W (coef (rs.map prR) vm)).2⟩⟩ := rfl
          unfold onev at hst
          generalize coef (rs.map prR) vm = z at *
          generalize (W z).1 = kb at *
          generalize (W z).2 = kl at *
          generalize hsg : sg z = sz at *
          have HAT := Aside0.mk hat
          have HKS := Aside0.mk hks
          have HST := Aside0.mk hst
          have HCN := Aside0.mk (Nat.lt_of_lt_of_le hcn (Nat.le_of_lt_succ HQ.out))
          have HEN := Aside0.mk hen
          have HOL := Aside0.mk (show os.length ≤ 1000000 by
            have h1 := congrArg List.length HO.out
            have h2 := norm_len (notA dn last (rs.map prR))
            have h3 : (notA dn last (rs.map prR)).length ≤ (rs.map prR).length := List.length_filter_le _ _
            rw [List.length_map, List.length_map] at h1
            rw [List.length_map] at h3
            have h4 := HLN.out
            have h5 := HBD.out
            omega)
          have cA := blk_all KAi.out
          clear hsp hsp2 hpv hst hcn hB hks hat hen hsg
          by_cases hz : z = 0
          · have d2 : (sz != 0) = false := by rw [hne, decide_eq_true hz]; rfl
            have HZ := Aside0.mk hz
            clear hne hz cR fR
            go_wp2_with (first
              | (go_at_call 29; (with_reducible refine (HAT.out _ (R1.out.b (below_step HB.out HBw.out)) (R2.out.b (below_step HB.out HBw.out))).mono ?_); rintro e w6 ⟨A6, c6, rfl, o6, hb⟩; have O6 := Aside0.mk o6; have HW6 := Aside0.mk hb; clear o6 hb cO cA)
              | ((with_reducible refine gate_dst (N := 10) rfl ?_); refine box_event ?hg (N := 10) ?hd (cs := #[.bool false, .slice none 0 0]) (t := 24) ?hr ?_; (case hd => rfl); (case hg => rfl); (case hr => first | (go_simp; done) | (go_simp; rfl)); intro gK hg w7 hbox hb; have KK := Aside0.mk hbox; have HX := Aside0.mk hb; have GX := Aside0.mk (show w6.heap.size ≤ gK by rw [hg]; exact Nat.le_refl _); have cK := blk_all hbox; have fK := frz_all hbox; clear hg hbox hb)
              | (go_at_call 44; (with_reducible refine (q_rSign ((O6.out.b (below_set2 HX.out GX.out _ _)).r) HKS.out).mono ?_); rintro e w8 ⟨rfl, hb⟩; have HY := Aside0.mk (below_step HW6.out (below_step (below_set2 HX.out GX.out _ _) hb)); clear hb cK fK))
            go_roundg k1
            case measure => omega
            case rel => exact ⟨true, vm, _, os, rfl, rfl, HCN, ⟨by rw [HST.out, if_pos HZ.out, List.append_nil, HO.out]⟩, ⟨blk_below BOi.out HY.out⟩, ⟨Kd.R_below (Kd.R_below HU.out HBi.out) HY.out⟩, ⟨fun x hx => ((HK.out x hx).below HBi.out).below HY.out⟩, ⟨below_step HBw.out HY.out⟩⟩
          · have d2 : (sz != 0) = true := by rw [hne, decide_eq_false hz]; rfl
            have HZ := Aside0.mk hz
            clear hne hz cR fR
            go_wp2_with (first
              | (go_at_call 29; (with_reducible refine (HAT.out _ (R1.out.b (below_step HB.out HBw.out)) (R2.out.b (below_step HB.out HBw.out))).mono ?_); rintro e w6 ⟨A6, c6, rfl, o6, hb⟩; have O6 := Aside0.mk (OI.mk (Kd.R_lower o6.o HBw.out.size) : OI w6 w3.heap.size A6 c6 kl); have HW6 := Aside0.mk hb; clear o6 hb cO cA)
              | ((with_reducible refine gate_dst (N := 10) rfl ?_); refine box_event ?hg (N := 10) ?hd (cs := #[.bool false, .slice none 0 0]) (t := 24) ?hr ?_; (case hd => rfl); (case hg => rfl); (case hr => first | (go_simp; done) | (go_simp; rfl)); intro gK hg w7 hbox hb; have KK := Aside0.mk hbox; have HX := Aside0.mk hb; have GX := Aside0.mk (show w6.heap.size ≤ gK by rw [hg]; exact Nat.le_refl _); have cK := blk_all hbox; have fK := frz_all hbox; clear hg hbox hb)
              | (go_at_call 44; (with_reducible refine (q_rSign ((O6.out.b (below_set2 HX.out GX.out _ _)).r) HKS.out).mono ?_); rintro e w8 ⟨rfl, hb⟩; have O8 := Aside0.mk ((O6.out.b (below_set2 HX.out GX.out _ _)).b hb); have HY := Aside0.mk (below_step HW6.out (below_step (below_set2 HX.out GX.out _ _) hb)); have KK8 := Aside0.mk (blk_below (blk_put2 KK.out _ _) hb); have BO8 := Aside0.mk (blk_below BOi.out HY.out); have HU8 := Aside0.mk (Kd.R_below (Kd.R_below HU.out HBi.out) HY.out); have HB8 := Aside0.mk (below_step HBw.out HY.out); clear hb cK fK; have cK := blk_all KK8.out; have cO := blk_all BO8.out)
              | ((with_reducible refine gate_builtin (b := .append) (xs := #[.tmp 55, .tmp 59]) rfl ?_); at_builtin; refine Kd.R_append kM (w0 := w3) w3.heap.size rfl (.tmp 55) (.tmp 59) 25 46 (.agg #[.int .i64 0, .bool false, .slice none 0 0]) 40 rfl Try.underlying25 infoM rfl (by decide) (by decide) (.slice Ao os.length co) os ⟨vm, kb, A6, c6, kl⟩ (encM ⟨vm, kb, A6, c6, kl⟩) (fun _ => True) (fun _ => False) rfl ?aX rfl (fun _ h => h.elim) (fun _ _ => trivial) ?aO ?aB ?aS ?aL ?_; (case aX => first | rfl | (simp only [World.alloc, Array.size_push]; rfl)); (case aO => exact HU8.out); (case aB => exact HB8.out); (case aS => exact HB8.out.size); (case aL => have := HOL.out; omega); intro v10 w10 ho hb hg hat; obtain ⟨A10, c10, e10⟩ := Kd.R_slice ho; subst e10; rw [List.length_append, List.length_singleton] at ho; have HO10 := Aside0.mk ho; have HB10 := Aside0.mk hb; have HG10 := Aside0.mk hg; have BO10 := Aside0.mk ((hg.block gO (Array.getElem?_eq_some_iff.1 BO8.out).1 (fun e => by obtain ⟨cs, hc⟩ := Kd.R_typed HU8.out gO e.symm; exact absurd rfl (box_ne BO8.out hc (by decide)))).trans BO8.out); clear ho hb hg hat cO cK; have cO := blk_all BO10.out; have fO := frz_all BO10.out))
            have hkg := keeps_grown HG10.out (Kd.R_typed HU8.out) (by decide)
            have hks := fun (k : Nat) (cells : Array Value) (t : Nat) (ht : t ≠ 27) (hk : w10.heap[k]? = some (Obj.cells cells t (0, 0))) => Below.heap_setCell w10 ⟨gO, 2, none⟩ (.slice A10 (os.length + 1) c10) k (box_ne BO10.out hk (fun e => ht e.symm))
            have hkk : ∀ y ∈ os ++ [(⟨vm, kb, A6, c6, kl⟩ : RM)], OwnK (w10.setCell ⟨gO, 2, none⟩ (.slice A10 (os.length + 1) c10)) w3.heap.size y := fun y hy => by
              have h8 : OwnK w8 w3.heap.size y := (List.mem_append.1 hy).elim (fun h => ((HK.out y h).below HBi.out).below HY.out) (fun h => by rw [List.mem_singleton.1 h]; exact O8.out.o)
              exact (h8.move hkg).move (fun k cells hk => hks k cells _ (by decide) hk)
            go_roundg k1
            case measure => omega
            case rel => exact ⟨true, vm, _, os ++ [⟨vm, kb, A6, c6, kl⟩], rfl, rfl, HCN, ⟨by rw [HST.out, if_neg HZ.out, List.map_append, List.map_append, HO.out]; exact congrArg (fun q => _ ++ [q]) HEN.out.symm⟩, ⟨blk_put (cs := #[.bool nb, .slice A3 nl.length c3, .slice Ao os.length co]) BO10.out 2 _ rfl⟩, ⟨kM_move HO10.out (fun k cells hk => hks k cells _ (by decide) hk)⟩, ⟨hkk⟩, ⟨below_set HB10.out GO.out⟩⟩
end Go.Proofs.Ytdicjemjmlbmlaa.H
