/- Joined by wip/tools/bundle.py for the claim of NatTexts: NatV, NatB, NatY, PAx8, NatL, NatC, NatR, PAx24, NatT, NatF, NatU, NatLTexts, PureNatTexts, LawNatTexts. -/
import Derived.Test.YtlfpnohpcemkgaaDoorJNatTexts1
import Derived.Test.YtlfpnohpcemkgaaDoorJNatTexts2
import Derived.Laws.BitsLemmas
import Derived.Laws.Bits64
import Derived.Test.YtlfpnohpcemkgaaDoorJNatTexts3
import Derived.OpenShut
import Derived.KernelRfl
import Derived.Lib.BitFns
import Derived.Test.YtlfpnohpcemkgaaDoorRows
import Derived.WalkKit
import Derived.Test.YtlfpnohpcemkgaaDoorTie
import Derived.Test.YtlfpnohpcemkgaaDoorCards
import Derived.SevenTiedAt
import Derived.Handed
import Derived.Lib.LaidIn
import Derived.Lib.LaidU8
import Derived.ProofKit
import Derived.ShutString
import Derived.ChangeOld
import Derived.Below
import Derived.SizedLaws
import Derived.Test.YtlfpnohpcemkgaaDoorWSized
/- Numbers by limbs: what a list of limbs is worth, and its own form. -/
namespace Go.Proofs.YtlfpnohpcemkgaaDoor.V
set_option linter.unusedVariables false
set_option linter.unusedSimpArgs false

def bB : Int := 4294967296
/-- What limbs are worth. -/
def val : List Int → Int
  | [] => 0
  | x :: r => x + 4294967296 * val r
/-- Limbs of 32 bits. -/
def Lim (l : List Int) : Prop := ∀ x ∈ l, 0 ≤ x ∧ x < 4294967296
theorem Lim.nil : Lim [] := fun _ h => by cases h
theorem Lim.cons {x : Int} {l : List Int} (h0 : 0 ≤ x) (h1 : x < 4294967296) (h : Lim l) : Lim (x :: l) := fun y hy => by
  rcases List.mem_cons.1 hy with rfl | hy
  · exact ⟨h0, h1⟩
  · exact h y hy
theorem Lim.head {x : Int} {l : List Int} (h : Lim (x :: l)) : 0 ≤ x ∧ x < 4294967296 := h x List.mem_cons_self
theorem Lim.tail {x : Int} {l : List Int} (h : Lim (x :: l)) : Lim l := fun y hy => h y (List.mem_cons_of_mem _ hy)
theorem Lim.append {a b : List Int} (ha : Lim a) (hb : Lim b) : Lim (a ++ b) := fun y hy => by
  rcases List.mem_append.1 hy with hy | hy
  · exact ha y hy
  · exact hb y hy
theorem Lim.left {a b : List Int} (h : Lim (a ++ b)) : Lim a := fun y hy => h y (List.mem_append_left _ hy)
theorem Lim.right {a b : List Int} (h : Lim (a ++ b)) : Lim b := fun y hy => h y (List.mem_append_right _ hy)
theorem Lim.take {a : List Int} (n : Nat) (h : Lim a) : Lim (a.take n) := fun y hy => h y (List.mem_of_mem_take hy)
theorem Lim.drop {a : List Int} (n : Nat) (h : Lim a) : Lim (a.drop n) := fun y hy => h y (List.mem_of_mem_drop hy)
theorem Lim.get {l : List Int} (h : Lim l) (i : Nat) (hi : i < l.length) : 0 ≤ l[i] ∧ l[i] < 4294967296 := h _ (List.getElem_mem hi)
theorem Lim.set {l : List Int} (h : Lim l) (i : Nat) {x : Int} (h0 : 0 ≤ x) (h1 : x < 4294967296) : Lim (l.set i x) := fun y hy => by
  rcases List.mem_or_eq_of_mem_set hy with hy | rfl
  · exact h y hy
  · exact ⟨h0, h1⟩
theorem Lim.zeros (n : Nat) : Lim (List.replicate n 0) := fun y hy => by
  obtain rfl := List.eq_of_mem_replicate hy
  omega
theorem val_nonneg {l : List Int} (h : Lim l) : 0 ≤ val l := by
  induction l with
  | nil => simp [val]
  | cons x l ih =>
    have := ih h.tail
    have := h.head
    simp only [val]; omega
/-- The weight of the limb at a place. -/
def pw (n : Nat) : Int := 4294967296 ^ n
theorem pw_zero : pw 0 = 1 := rfl
theorem pw_succ (n : Nat) : pw (n + 1) = 4294967296 * pw n := by unfold pw; rw [Int.pow_succ]; omega
theorem pw_pos (n : Nat) : 0 < pw n := by
  induction n with
  | zero => decide
  | succ n ih => rw [pw_succ]; omega
theorem pw_add (m n : Nat) : pw (m + n) = pw m * pw n := by unfold pw; exact Int.pow_add ..
theorem val_lt {l : List Int} (h : Lim l) : val l < pw l.length := by
  induction l with
  | nil => simp [val, pw_zero]
  | cons x l ih =>
    have := ih h.tail
    have := h.head
    simp only [val, List.length_cons, pw_succ]; omega
theorem val_append (a b : List Int) : val (a ++ b) = val a + pw a.length * val b := by
  induction a with
  | nil => simp [val, pw_zero]
  | cons x a ih => simp only [List.cons_append, val, ih, List.length_cons, pw_succ]; grind
theorem val_zeros (n : Nat) : val (List.replicate n 0) = 0 := by
  induction n with
  | zero => rfl
  | succ n ih => simp only [List.replicate_succ, val, ih]; omega
/-- The limbs of a number, without noughts behind. -/
def digN (n : Nat) : List Int := if h : n = 0 then [] else ((n % 4294967296 : Nat) : Int) :: digN (n / 4294967296)
termination_by n
decreasing_by omega
def dig (n : Int) : List Int := digN n.toNat
theorem digN_lim (n : Nat) : Lim (digN n) := by
  induction n using Nat.strongRecOn with
  | _ n ih =>
    rw [digN]
    split
    · exact Lim.nil
    · exact Lim.cons (by omega) (by omega) (ih _ (by omega))
theorem val_digN (n : Nat) : val (digN n) = n := by
  induction n using Nat.strongRecOn with
  | _ n ih =>
    rw [digN]
    split
    · rename_i h; simp [val, h]
    · simp only [val]; rw [ih _ (by omega)]; omega
theorem dig_lim (n : Int) : Lim (dig n) := digN_lim _
theorem val_dig {n : Int} (h : 0 ≤ n) : val (dig n) = n := by unfold dig; rw [val_digN]; omega
theorem dig_zero : dig 0 = [] := by unfold dig; rw [digN]; rfl
theorem dig_eq_nil {n : Int} (h : 0 ≤ n) : dig n = [] ↔ n = 0 := by
  constructor
  · intro e
    have := val_dig h
    rw [e] at this
    exact this.symm
  · rintro rfl; exact dig_zero
theorem dig_cons {x n : Int} (h0 : 0 ≤ x) (h1 : x < 4294967296) (hn : 0 ≤ n) (h : x + 4294967296 * n ≠ 0) : dig (x + 4294967296 * n) = x :: dig n := by
  unfold dig
  rw [digN]
  rw [dif_neg (by omega)]
  have e1 : (((x + 4294967296 * n).toNat % 4294967296 : Nat) : Int) = x := by omega
  have e2 : (x + 4294967296 * n).toNat / 4294967296 = n.toNat := by omega
  rw [e1, e2]
theorem dig_length_le {n : Int} {k : Nat} (h0 : 0 ≤ n) (h : n < pw k) : (dig n).length ≤ k := by
  induction k generalizing n with
  | zero => rw [pw_zero] at h; rw [show n = 0 by omega, dig_zero]; simp
  | succ k ih =>
    rw [pw_succ] at h
    by_cases hn : n = 0
    · rw [hn, dig_zero]; simp
    · have e : n = n % 4294967296 + 4294967296 * (n / 4294967296) := by omega
      rw [e, dig_cons (by omega) (by omega) (by omega) (by omega)]
      have := ih (n := n / 4294967296) (by omega) (by omega)
      simp; omega
theorem lt_of_dig_length {n : Int} {k : Nat} (h0 : 0 ≤ n) (h : (dig n).length ≤ k) : n < pw k := by
  have := val_lt (dig_lim n)
  rw [val_dig h0] at this
  have hp : pw (dig n).length ≤ pw k := by
    obtain ⟨d, hd⟩ := Nat.exists_eq_add_of_le h
    rw [hd, pw_add]
    have := pw_pos (dig n).length
    have := pw_pos d
    calc pw (dig n).length = pw (dig n).length * 1 := by omega
      _ ≤ _ := Int.mul_le_mul_of_nonneg_left (by omega) (by omega)
  omega
/-- Without the noughts behind: as the machine's Norm. -/
theorem dropWhile_zeros (l : List Int) (h : Lim l) : (l.reverse.dropWhile (fun x => x == 0)).reverse = dig (val l) := by
  induction l with
  | nil => simp [val, dig_zero]
  | cons x l ih =>
    have ih := ih h.tail
    have hx := h.head
    have hv := val_nonneg h.tail
    simp only [val, List.reverse_cons]
    rw [List.dropWhile_append]
    by_cases hz : val l = 0
    · rw [hz, dig_zero] at ih
      have e : (List.dropWhile (fun x => x == 0) l.reverse) = [] := by simpa using ih
      rw [e, hz]
      by_cases h0 : x = 0
      · subst h0; simp [dig_zero]
      · have : dig (x + 4294967296 * 0) = x :: dig 0 := dig_cons (by omega) (by omega) (by omega) (by omega)
        rw [this, dig_zero]
        simp [h0]
    · have hne : dig (val l) ≠ [] := by rw [Ne, dig_eq_nil hv]; exact hz
      rw [dig_cons (by omega) (by omega) hv (by omega), ← ih]
      have e : (List.dropWhile (fun x => x == 0) l.reverse).isEmpty = false := by
        rw [← ih] at hne
        cases hd : List.dropWhile (fun x => x == 0) l.reverse with
        | nil => rw [hd] at hne; simp at hne
        | cons _ _ => rfl
      rw [e]; simp
theorem dig_val_of_last {l : List Int} (h : Lim l) (hl : ∀ hne : l ≠ [], l.getLast hne ≠ 0) : dig (val l) = l := by
  rw [← dropWhile_zeros l h]
  cases hr : l.reverse with
  | nil => simp [List.reverse_eq_nil_iff.1 hr]
  | cons x r =>
    obtain rfl : l = r.reverse ++ [x] := by rw [← List.reverse_reverse l, hr]; simp
    have hx : x ≠ 0 := by
      have := hl (by simp)
      simpa using this
    rw [List.dropWhile_cons_of_neg (by simpa using hx), ← hr, List.reverse_reverse]
theorem dig_last {n : Int} (hne : dig n ≠ []) : (dig n).getLast hne ≠ 0 := by
  have key : ∀ (m : Nat) (hne : digN m ≠ []), (digN m).getLast hne ≠ 0 := by
    intro m
    induction m using Nat.strongRecOn with
    | _ m ih =>
      rw [digN]
      split
      · intro h; exact absurd rfl h
      · intro _
        by_cases hd : digN (m / 4294967296) = []
        · have : m / 4294967296 = 0 := by
            have hv := val_digN (m / 4294967296)
            rw [hd] at hv
            simp only [val] at hv
            omega
          simp only [hd, List.getLast_singleton]
          omega
        · rw [List.getLast_cons hd]
          exact ih _ (by omega) hd
  exact key _ hne
theorem dig_inj {a b : Int} (ha : 0 ≤ a) (hb : 0 ≤ b) (h : dig a = dig b) : a = b := by
  rw [← val_dig ha, ← val_dig hb, h]
theorem val_take_getD (l : List Int) (i : Nat) : val (l.take (i + 1)) = val (l.take i) + pw i * l.getD i 0 := by
  by_cases h : i < l.length
  · rw [List.take_succ_eq_append_getElem h, val_append, List.length_take, Nat.min_eq_left (Nat.le_of_lt h)]
    simp [val, h]
  · rw [List.take_of_length_le (by omega), List.take_of_length_le (by omega), List.getD_eq_getElem?_getD, List.getElem?_eq_none (by omega)]
    simp
theorem val_set_take (l : List Int) (i : Nat) (x : Int) (h : i < l.length) : val ((l.set i x).take (i + 1)) = val (l.take i) + pw i * x := by
  rw [val_take_getD, List.take_set_of_le (Nat.le_refl i)]
  simp [List.getD_eq_getElem?_getD, h]
theorem val_set (l : List Int) (i : Nat) (x : Int) (h : i < l.length) : val (l.set i x) = val l + pw i * (x - l[i]) := by
  induction l generalizing i with
  | nil => simp at h
  | cons y l ih =>
    cases i with
    | zero => simp [val, pw_zero]; omega
    | succ i =>
      have := ih i (by simpa using h)
      simp only [List.set_cons_succ, val, this, pw_succ, List.getElem_cons_succ]
      grind
theorem val_take_le {l : List Int} (h : Lim l) (i : Nat) : val (l.take i) ≤ val l := by
  by_cases hi : i ≤ l.length
  · have e : val l = val (l.take i) + pw i * val (l.drop i) := by
      have := val_append (l.take i) (l.drop i)
      rwa [List.take_append_drop, List.length_take, Nat.min_eq_left hi] at this
    have := Int.mul_nonneg (Int.le_of_lt (pw_pos i)) (val_nonneg (h.drop i))
    omega
  · rw [List.take_of_length_le (by omega)]; exact Int.le_refl _
theorem lim_one {x : Int} (h0 : 0 ≤ x) (h1 : x < 4294967296) : Lim [x] := Lim.cons h0 h1 Lim.nil
theorem val_one (x : Int) : val [x] = x := by simp [val]
theorem val_take_drop (l : List Int) (i : Nat) (h : i ≤ l.length) : val l = val (l.take i) + pw i * val (l.drop i) := by
  have := val_append (l.take i) (l.drop i)
  rwa [List.take_append_drop, List.length_take, Nat.min_eq_left h] at this
theorem val_take_succ (l : List Int) (i : Nat) (h : i < l.length) : val (l.take (i + 1)) = val (l.take i) + pw i * l[i] := by
  rw [List.take_succ_eq_append_getElem h, val_append, List.length_take, Nat.min_eq_left (Nat.le_of_lt h)]
  simp [val]
theorem val_drop_cons (l : List Int) (i : Nat) (h : i < l.length) : val (l.drop i) = l[i] + 4294967296 * val (l.drop (i + 1)) := by
  rw [List.drop_eq_getElem_cons h]; rfl
end Go.Proofs.YtlfpnohpcemkgaaDoor.V
/- What nat's functions compute, as numbers: the order, sums, differences, products, a number by a small one, moved bits. -/
namespace Go.Proofs.YtlfpnohpcemkgaaDoor.V
set_option linter.unusedVariables false
set_option linter.unusedSimpArgs false
open Go.RowKit Go.Proofs.YtlfpnohpcemkgaaDoor.PA Go.Proofs.YtlfpnohpcemkgaaDoor.H Go.Proofs.YtlfpnohpcemkgaaDoorW.PrintWords Go.Proofs.YtlfpnohpcemkgaaDoorW.PrintLast Go.Proofs.YtlfpnohpcemkgaaDoorW.PrintMore

theorem w64 {x : Int} (h0 : -9223372036854775808 ≤ x) (h1 : x ≤ 9223372036854775807) : wrap64 x = x := by unfold wrap64; omega
theorem w01 : wrap64 1 = 1 := w64 (by omega) (by omega)
theorem w11 : wrap64 2 = 2 := w64 (by omega) (by omega)
theorem w21 : wrap64 3 = 3 := w64 (by omega) (by omega)
theorem wm1 : wrap64 (-1) = -1 := w64 (by omega) (by omega)
theorem wm2 : wrap64 (-2) = -2 := w64 (by omega) (by omega)
theorem wm0 : wrap64 0 = 0 := w64 (by omega) (by omega)
theorem u64 {x : Int} (h0 : 0 ≤ x) (h1 : x < 18446744073709551616) : IntKind.u64.wrap x = x := by rw [IntKind.wrap_u64]; omega
theorem u64e (x : Int) : IntKind.u64.wrap x = x % 18446744073709551616 := IntKind.wrap_u64 x
theorem rd_get (l : List Int) (i : Nat) (h : i < l.length) : rd l (i : Int) = l[i] := by simp [rd, h]
theorem rd_D (l : List Int) (i : Nat) : rd l (i : Int) = l.getD i 0 := by simp [rd]
theorem Lim.getD {l : List Int} (h : Lim l) (i : Nat) : 0 ≤ l.getD i 0 ∧ l.getD i 0 < 4294967296 := by
  by_cases hi : i < l.length
  · have := h.get i hi
    simpa [List.getD_eq_getElem?_getD, hi] using this
  · rw [List.getD_eq_getElem?_getD, List.getElem?_eq_none (by omega)]
    simp
theorem norm_ev (l : List Int) (h : Lim l) (hn : l.length ≤ 1000000000000) : nat_Norm.f l = some (dig (val l)) := by
  unfold nat_Norm.f
  rw [if_pos hn]
  unfold normL
  rw [dropWhile_zeros l h]
theorem limb_ev (l : List Int) (i : Nat) (h : Lim l) : nat_limb.f l (i : Int) = some (l.getD i 0) := by
  have hg := h.getD i
  unfold nat_limb.f
  by_cases hi : i < l.length
  · rw [if_neg (by omega), if_pos (by omega), if_pos (by omega), rd_D, u64 hg.1 (by omega)]
  · rw [if_pos (by omega), List.getD_eq_getElem?_getD, List.getElem?_eq_none (by omega)]
    rfl
theorem sign_ev (n : Int) : nat_sign.f n = some (if n < 0 then -1 else if n > 0 then 1 else 0) := by
  unfold nat_sign.f
  split
  · rfl
  · split <;> rfl
/-- The order of two numbers. -/
def cmpI (a b : Int) : Int := if a < b then -1 else if b < a then 1 else 0
theorem val_lt_of_length {a b : List Int} (ha : Lim a) (hb : Lim b) (hl : a.length < b.length) (hne : ∀ h : b ≠ [], b.getLast h ≠ 0) : val a < val b := by
  have h1 := val_lt ha
  obtain ⟨b', x, rfl⟩ : ∃ b' x, b = b' ++ [x] := by
    have hb0 : b ≠ [] := by rintro rfl; simp at hl
    exact ⟨b.dropLast, b.getLast hb0, (List.dropLast_concat_getLast hb0).symm⟩
  have hx : x ≠ 0 := by simpa using hne (by simp)
  have hx0 := (hb x (by simp)).1
  rw [val_append]
  have h2 := val_nonneg hb.left
  have h3 : pw a.length ≤ pw b'.length := by
    simp at hl
    obtain ⟨d, hd⟩ := Nat.exists_eq_add_of_le (show a.length ≤ b'.length by omega)
    rw [hd, pw_add]
    have := pw_pos a.length
    have := pw_pos d
    calc pw a.length = pw a.length * 1 := by omega
      _ ≤ _ := Int.mul_le_mul_of_nonneg_left (by omega) (by omega)
  have h4 : pw b'.length * 1 ≤ pw b'.length * val [x] := Int.mul_le_mul_of_nonneg_left (by simp [val]; omega) (Int.le_of_lt (pw_pos _))
  omega
theorem cmp_l0 (a b : List Int) (ha : Lim a) (hb : Lim b) (hl : a.length = b.length) (hn : a.length ≤ 1000000000000) (d : Nat) (hd : d ≤ a.length) (he : a.drop d = b.drop d) :
    Ev (fun k => nat_Cmp.l0 k a b ((d : Int) - 1)) (cmpI (val a) (val b)) := by
  induction d with
  | zero =>
    simp only [List.drop_zero] at he
    refine Ev.step (f := fun _ => some _) (fun k => ?_) (Ev.now _)
    simp only [nat_Cmp.l0]
    rw [if_neg (by omega), he]
    unfold cmpI
    rw [if_neg (by omega), if_neg (by omega)]
  | succ d ih =>
    have hda : d < a.length := by omega
    have hdb : d < b.length := by omega
    have e0 : ((d + 1 : Nat) : Int) - 1 = (d : Int) := by omega
    rw [e0]
    have xa := ha.get d hda
    have xb := hb.get d hdb
    by_cases hx : a[d] = b[d]
    · refine Ev.step (fun k => ?_) (ih (by omega) (by rw [List.drop_eq_getElem_cons hda, List.drop_eq_getElem_cons hdb, he, hx]))
      simp only [nat_Cmp.l0]
      rw [if_pos (by omega), if_pos (by omega), if_pos (by omega), if_pos (by omega), rd_get _ _ hda, rd_get _ _ hdb, if_pos hx, w64 (by omega) (by omega)]
    · refine Ev.step (f := fun _ => some _) (fun k => ?_) (Ev.now _)
      simp only [nat_Cmp.l0]
      rw [if_pos (by omega), if_pos (by omega), if_pos (by omega), if_pos (by omega), rd_get _ _ hda, rd_get _ _ hdb, if_neg hx, w64 (x := a[d]) (by omega) (by omega), w64 (x := b[d]) (by omega) (by omega), w64 (by omega) (by omega), sign_ev]
      simp only [Option.bind_some]
      have e1 := val_take_drop a (d + 1) hd
      have e2 := val_take_drop b (d + 1) (by omega)
      rw [he] at e1
      rw [val_take_succ a d hda] at e1
      rw [val_take_succ b d hdb] at e2
      have b1 := val_nonneg (ha.take d)
      have b2 := val_nonneg (hb.take d)
      have b3 := val_lt (ha.take d)
      have b4 := val_lt (hb.take d)
      rw [List.length_take, Nat.min_eq_left (by omega)] at b3 b4
      unfold cmpI
      congr 1
      by_cases hlt : a[d] < b[d]
      · have h5 : pw d * (a[d] + 1) ≤ pw d * b[d] := Int.mul_le_mul_of_nonneg_left (by omega) (Int.le_of_lt (pw_pos _))
        rw [Int.mul_add, Int.mul_one] at h5
        rw [if_pos (by omega), if_pos (by omega)]
      · have h5 : pw d * (b[d] + 1) ≤ pw d * a[d] := Int.mul_le_mul_of_nonneg_left (by omega) (Int.le_of_lt (pw_pos _))
        rw [Int.mul_add, Int.mul_one] at h5
        rw [if_neg (by omega), if_pos (by omega), if_neg (by omega), if_pos (by omega)]
theorem dig_length (l : List Int) (h : Lim l) : (dig (val l)).length ≤ l.length := dig_length_le (val_nonneg h) (val_lt h)
theorem cmp_ev (a b : List Int) (ha : Lim a) (hb : Lim b) (hna : a.length ≤ 1000000000000) (hnb : b.length ≤ 1000000000000) : Ev (fun k => nat_Cmp.f k a b) (cmpI (val a) (val b)) := by
  have va := val_nonneg ha
  have vb := val_nonneg hb
  have la := dig_length a ha
  have lb := dig_length b hb
  by_cases hl : (dig (val a)).length = (dig (val b)).length
  · have := cmp_l0 (dig (val a)) (dig (val b)) (dig_lim _) (dig_lim _) hl (by omega) _ (Nat.le_refl _) (by rw [List.drop_eq_nil_of_le (by omega), List.drop_eq_nil_of_le (by omega)])
    rw [val_dig va, val_dig vb] at this
    refine Ev.congr (fun k => ?_) this
    unfold nat_Cmp.f
    rw [norm_ev a ha hna, norm_ev b hb hnb]
    simp only [Option.bind_some]
    rw [if_pos (by omega), w64 (by omega) (by omega)]
  · refine Ev.congr (f := fun _ => some _) (fun k => ?_) (Ev.now _)
    unfold nat_Cmp.f
    rw [norm_ev a ha hna, norm_ev b hb hnb]
    simp only [Option.bind_some]
    rw [if_neg (by omega), w64 (by omega) (by omega), sign_ev]
    simp only [Option.bind_some]
    congr 1
    unfold cmpI
    by_cases hlt : (dig (val a)).length < (dig (val b)).length
    · have := val_lt_of_length (dig_lim _) (dig_lim _) hlt (fun h => dig_last h)
      rw [val_dig va, val_dig vb] at this
      rw [if_pos (by omega), if_pos (by omega)]
    · have := val_lt_of_length (dig_lim _) (dig_lim _) (show (dig (val b)).length < (dig (val a)).length by omega) (fun h => dig_last h)
      rw [val_dig va, val_dig vb] at this
      rw [if_neg (by omega), if_pos (by omega), if_neg (by omega), if_pos (by omega)]
theorem of_ev (n : Int) (h0 : 0 ≤ n) (h1 : n < 18446744073709551616) : nat_Of.f n = some (dig n) := by
  unfold nat_Of.f
  rw [norm_ev _ (Lim.cons (by omega) (by omega) (Lim.cons (by omega) (by omega) Lim.nil)) (by simp)]
  simp only [Option.bind_some, val]
  congr 2
  omega
theorem pw_le_pw {a b : Nat} (h : a ≤ b) : pw a ≤ pw b := by
  obtain ⟨d, rfl⟩ := Nat.exists_eq_add_of_le h
  rw [pw_add]
  have := pw_pos a
  have := pw_pos d
  calc pw a = pw a * 1 := by omega
    _ ≤ _ := Int.mul_le_mul_of_nonneg_left (by omega) (by omega)

/-! ### sums -/
theorem step_add {P V A Bv c x y q r : Int} (h : V + P * c = A + Bv) (e : r + 4294967296 * q = c + (x + y)) : V + P * r + (4294967296 * P) * q = A + P * x + (Bv + P * y) := by grind
theorem add_l0 (a b : List Int) (ha : Lim a) (hb : Lim b) (n : Nat) (hna : a.length < n) (hnb : b.length < n) (hn : n ≤ 1000000000000) (d : Nat) : ∀ (i : Nat) (out : List Int) (c : Int), i + d = n → out.length = n → Lim out → 0 ≤ c → c ≤ 1 → val (out.take i) + pw i * c = val (a.take i) + val (b.take i) →
    Ev (fun k => nat_Add.l0 k a b out c (n : Int) (i : Int)) (dig (val a + val b)) := by
  induction d with
  | zero =>
    intro i out c hi ho hL c0 c1 hv
    obtain rfl : i = n := by omega
    refine Ev.step (f := fun _ => some _) (fun k => ?_) (Ev.now _)
    simp only [nat_Add.l0]
    rw [if_neg (by omega), norm_ev out hL (by omega)]
    simp only [Option.bind_some]
    rw [List.take_of_length_le (by omega), List.take_of_length_le (by omega), List.take_of_length_le (by omega)] at hv
    have h1 := val_lt ha
    have h2 := val_lt hb
    have h3 := val_nonneg hL
    obtain ⟨m, rfl⟩ : ∃ m, i = m + 1 := ⟨i - 1, by omega⟩
    have h4 := pw_le_pw (show a.length ≤ m by omega)
    have h5 := pw_le_pw (show b.length ≤ m by omega)
    have h6 := pw_succ m
    have h7 := pw_pos m
    have hc : c = 0 := by
      by_cases hc : c = 0
      · exact hc
      · have : c = 1 := by omega
        subst this
        omega
    subst hc
    congr 2
    omega
  | succ d ih =>
    intro i out c hi ho hL c0 c1 hv
    have ga := ha.getD i
    have gb := hb.getD i
    have hio : i < out.length := by omega
    refine Ev.step (fun k => ?_) (ih (i + 1) (out.set i ((c + (a.getD i 0 + b.getD i 0)) % 4294967296)) ((c + (a.getD i 0 + b.getD i 0)) / 4294967296) (by omega) (by simpa using ho) (hL.set i (by omega) (by omega)) (by omega) (by omega) ?_)
    · simp only [nat_Add.l0]
      rw [if_pos (by omega), limb_ev a i ha, limb_ev b i hb]
      simp only [Option.bind_some]
      rw [if_pos (by omega), if_pos (by omega), u64 (x := a.getD i 0 + b.getD i 0) (by omega) (by omega), u64 (by omega) (by omega), w64 (by omega) (by omega), Int.toNat_natCast]
      rfl
    · rw [val_set_take _ _ _ hio, val_take_getD a, val_take_getD b, pw_succ]
      exact step_add hv (by omega)
theorem mx_len (a b : List Int) : mx (a.length : Int) (b.length : Int) = ((max a.length b.length : Nat) : Int) := by unfold mx; split <;> omega
theorem add_ev (a b : List Int) (ha : Lim a) (hb : Lim b) (hna : a.length < 1000000000) (hnb : b.length < 1000000000) : Ev (fun k => nat_Add.f k a b) (dig (val a + val b)) := by
  have := add_l0 a b ha hb (max a.length b.length + 1) (by omega) (by omega) (by omega) (max a.length b.length + 1) 0 (List.replicate (max a.length b.length + 1) 0) 0 (by omega) (by simp) (Lim.zeros _) (by omega) (by omega) (by simp [val])
  refine Ev.congr (fun k => ?_) this
  unfold nat_Add.f
  rw [mx_len, w64 (by omega) (by omega), if_pos (by omega), if_pos (by omega)]
  congr 1 <;> omega

end Go.Proofs.YtlfpnohpcemkgaaDoor.V
/- Are two lists the same? -/
namespace Go.Proofs.YtlfpnohpcemkgaaDoor.V
set_option linter.unusedVariables false
set_option linter.unusedSimpArgs false
open Go.RowKit Go.Proofs.YtlfpnohpcemkgaaDoor.PA Go.Proofs.YtlfpnohpcemkgaaDoor.H Go.Proofs.YtlfpnohpcemkgaaDoorW.PrintWords Go.Proofs.YtlfpnohpcemkgaaDoorW.PrintLast Go.Proofs.YtlfpnohpcemkgaaDoorW.PrintMore

/-! ### equality -/
theorem same_l0 (a b : List Int) (hl : a.length = b.length) (hn : a.length ≤ 1000000000) (d : Nat) : ∀ i : Nat, i + d = a.length → a.take i = b.take i → Ev (fun k => gudgeonref01_Same.l0 k a b (i : Int)) (decide (a = b)) := by
  induction d with
  | zero =>
    intro i hi he
    rw [List.take_of_length_le (by omega), List.take_of_length_le (by omega)] at he
    refine Ev.step (f := fun _ => some _) (fun k => ?_) (Ev.now _)
    simp only [gudgeonref01_Same.l0]
    rw [if_neg (by omega), decide_eq_true he]
  | succ d ih =>
    intro i hi he
    have hia : i < a.length := by omega
    have hib : i < b.length := by omega
    by_cases hx : a[i] = b[i]
    · refine Ev.step (fun k => ?_) (ih (i + 1) (by omega) (by rw [List.take_succ_eq_append_getElem hia, List.take_succ_eq_append_getElem hib, he, hx]))
      simp only [gudgeonref01_Same.l0]
      rw [if_pos (by omega), if_pos (by omega), if_pos (by omega), rd_get _ _ hia, rd_get _ _ hib, if_pos hx, w64 (by omega) (by omega)]
      rfl
    · refine Ev.step (f := fun _ => some _) (fun k => ?_) (Ev.now _)
      simp only [gudgeonref01_Same.l0]
      rw [if_pos (by omega), if_pos (by omega), if_pos (by omega), rd_get _ _ hia, rd_get _ _ hib, if_neg hx, decide_eq_false]
      intro h
      subst h
      exact hx rfl
theorem same_ev (a b : List Int) (hn : a.length ≤ 1000000000) : Ev (fun k => gudgeonref01_Same.f k a b) (decide (a = b)) := by
  by_cases hl : a.length = b.length
  · refine Ev.congr (fun k => ?_) (same_l0 a b hl hn a.length 0 (by omega) rfl)
    unfold gudgeonref01_Same.f
    rw [if_pos (by omega)]
    rfl
  · refine Ev.congr (f := fun _ => some _) (fun k => ?_) (Ev.now _)
    unfold gudgeonref01_Same.f
    rw [if_neg (by omega), decide_eq_false]
    intro h
    exact hl (by rw [h])
theorem same_self (a b : List Int) (h : a = b) (hn : a.length ≤ 1000000000) : Ev (fun k => gudgeonref01_Same.f k a b) true := by
  have := same_ev a b hn
  rwa [decide_eq_true h] at this
end Go.Proofs.YtlfpnohpcemkgaaDoor.V
/- Written by a program of this session, wip/tools/patch_print.py, over the kit's print of the loaded functions. -/
namespace Go.Proofs.YtlfpnohpcemkgaaDoor.H
end Go.Proofs.YtlfpnohpcemkgaaDoor.H
namespace Go.Proofs.YtlfpnohpcemkgaaDoor.PA
open Go.RowKit Go.Proofs.YtlfpnohpcemkgaaDoorW.PrintWords Go.Proofs.YtlfpnohpcemkgaaDoorW.PrintLast Go.Proofs.YtlfpnohpcemkgaaDoorW.PrintMore Go.Proofs.YtlfpnohpcemkgaaDoor.H
attribute [local go_sem] max2_int min2_int max_two min_two max_three min_three max_four min_four   -- for this text's walks alone
set_option linter.unusedVariables false
set_option linter.unusedSimpArgs false

/-! ### gudgeonlaw01_few: function 12 -/
def gudgeonlaw01_few.f (l0 : List Int) (l1 : List Int) (a2 : Int) : Option (Bool) := if (l0.length : Int) ≤ a2 then (some (decide ((l1.length : Int) ≤ a2))) else (some false)
set_option maxHeartbeats 8000000 in
set_option maxRecDepth 100000 in
theorem gudgeonlaw01_few.calls (A0 : Option Addr) (c0 : Nat) (l0 : List Int) (A1 : Option Addr) (c1 : Nat) (l1 : List Int) (a2 : Int) (r : Bool) (w : World) (hr0 : Kd.C (Kd.int .u32) w A0 l0.length l0) (hc0 : l0.length ≤ c0) (hr1 : Kd.C (Kd.int .u32) w A1 l1.length l1) (hc1 : l1.length ≤ c1) (h : gudgeonlaw01_few.f l0 l1 a2 = some r) :
  Calls Tryd.prog 12 #[.slice A0 l0.length c0, .slice A1 l1.length c1, .int .i64 a2] w fun e w' => e = .returned (.bool r) ∧ Drawn0 w w' := by
 have HR0 := Aside0.mk hr0
 have HC0 := Aside0.mk hc0
 clear hr0 hc0
 have HR1 := Aside0.mk hr1
 have HC1 := Aside0.mk hc1
 clear hr1 hc1
 have H : (if (l0.length : Int) ≤ a2 then (some (decide ((l1.length : Int) ≤ a2))) else (some false)) = some r := h
 clear h
 by_cases c4 : (l0.length : Int) ≤ a2
 ·rw [if_pos c4] at H
  have c4b0 : decide ((l0.length : Int) ≤ a2) = true := decide_eq_true c4
  clear c4
  obtain rfl := Option.some.inj H
  go_enter Tryd.func12, Tryd.ntmps12
  go_wp2
  go_ret
  exact ⟨by first | rfl | (simp; done) | (simp [*]; done) | (refine congrArg (Value.int _) ?_; omega) | (refine congrArg Value.bool ?_; generalize ByteArray.toList _ = z_; cases z_ <;> rfl), by repeat (first | exact Drawn0.refl _ | apply Drawn0.step)⟩
 ·rw [if_neg c4] at H
  have c4b0 : decide ((l0.length : Int) ≤ a2) = false := decide_eq_false c4
  clear c4
  obtain rfl := Option.some.inj H
  go_enter Tryd.func12, Tryd.ntmps12
  go_wp2
  go_ret
  exact ⟨by first | rfl | (simp; done) | (simp [*]; done) | (refine congrArg (Value.int _) ?_; omega) | (refine congrArg Value.bool ?_; generalize ByteArray.toList _ = z_; cases z_ <;> rfl), by repeat (first | exact Drawn0.refl _ | apply Drawn0.step)⟩

end Go.Proofs.YtlfpnohpcemkgaaDoor.PA
/- What the laws of nat have in common. -/
namespace Go.Proofs.YtlfpnohpcemkgaaDoor.S
set_option linter.unusedVariables false
set_option linter.unusedSimpArgs false
open Go.RowKit Go.Proofs.YtlfpnohpcemkgaaDoor.V Go.Proofs.YtlfpnohpcemkgaaDoor.PA Go.Proofs.YtlfpnohpcemkgaaDoor.H Go.Proofs.YtlfpnohpcemkgaaDoorW.PrintWords Go.Proofs.YtlfpnohpcemkgaaDoorW.PrintLast Go.Proofs.YtlfpnohpcemkgaaDoorW.PrintMore

theorem evC {α β : Type} {o : Option α} {f : Nat → α → Option β} {a : α} {r : β} (h : o = some a) (k : Ev (fun n => f n a) r) : Ev (fun n => o.bind (f n)) r := by
  subst h; exact k
theorem evP {α : Type} {c : Prop} [Decidable c] {f g : Nat → Option α} {r : α} (h : c) (k : Ev f r) : Ev (fun n => if c then f n else g n) r := by
  simp only [if_pos h]; exact k
theorem evN {α : Type} {c : Prop} [Decidable c] {f g : Nat → Option α} {r : α} (h : ¬ c) (k : Ev g r) : Ev (fun n => if c then f n else g n) r := by
  simp only [if_neg h]; exact k
theorem evR {α : Type} {a r : α} (h : a = r) : Ev (fun _ => some a) r := by subst h; exact Ev.now _
theorem lim_wf {l : List Int} (h : ∀ x ∈ l, (Lit.int .u32 x).wf = true) : Lim l := fun x hx => by have := bounds_u32 (h x hx); omega
theorem len_add {x y : Int} (hx : 0 ≤ x) (hy : 0 ≤ y) : (dig (x + y)).length ≤ max (dig x).length (dig y).length + 1 := by
  have h1 := lt_of_dig_length hx (Nat.le_max_left (dig x).length (dig y).length)
  have h2 := lt_of_dig_length hy (Nat.le_max_right (dig x).length (dig y).length)
  exact dig_length_le (by omega) (by rw [pw_succ]; omega)
theorem len_mul {x y : Int} (hx : 0 ≤ x) (hy : 0 ≤ y) : (dig (x * y)).length ≤ (dig x).length + (dig y).length := by
  have h1 := lt_of_dig_length hx (Nat.le_refl _)
  have h2 := lt_of_dig_length hy (Nat.le_refl _)
  refine dig_length_le (Int.mul_nonneg hx hy) ?_
  rw [pw_add]
  have a1 : x * y ≤ x * pw (dig y).length := Int.mul_le_mul_of_nonneg_left (by omega) hx
  have a2 : x * pw (dig y).length < pw (dig x).length * pw (dig y).length := Int.mul_lt_mul_of_pos_right h1 (pw_pos _)
  omega
theorem len_le {x y : Int} (hx : 0 ≤ x) (h : x ≤ y) : (dig x).length ≤ (dig y).length := by
  have h1 := lt_of_dig_length (n := y) (by omega) (Nat.le_refl _)
  exact dig_length_le hx (by omega)
theorem digs {l : List Int} (h : Lim l) (hl : ∀ hne : l ≠ [], l.getLast hne ≠ 0) {v : Int} (hv : val l = v) : dig v = l := by rw [← hv]; exact dig_val_of_last h hl
theorem dig_one {x : Int} (h0 : 0 < x) (h1 : x < 4294967296) : dig x = [x] := digs (lim_one (by omega) h1) (by intro _; simp; omega) (val_one x)
theorem lim01 : Lim [0, 1] := Lim.cons (by omega) (by omega) (lim_one (by omega) (by omega))
theorem dig01 : dig 4294967296 = [0, 1] := digs lim01 (by intro _; simp) (by simp [val])
theorem awake_ev : Ev (fun _ => gudgeonlaw01_awake.f) true := Ev.now _
theorem few_ev (a b : List Int) (n : Nat) : gudgeonlaw01_few.f a b (n : Int) = some (decide (a.length ≤ n) && decide (b.length ≤ n)) := by
  unfold gudgeonlaw01_few.f
  by_cases h : a.length ≤ n
  · rw [if_pos (by omega), decide_eq_true h, Bool.true_and]
    congr 1
    rw [Bool.eq_iff_iff]
    simp
  · rw [if_neg (by omega), decide_eq_false h, Bool.false_and]
theorem few_no {a b : List Int} {n : Nat} (h : ¬ (a.length ≤ n ∧ b.length ≤ n)) : (decide (a.length ≤ n) && decide (b.length ≤ n)) = false := by
  rw [Bool.and_eq_false_iff]
  simp only [decide_eq_false_iff_not]
  omega
end Go.Proofs.YtlfpnohpcemkgaaDoor.S
/- What nat's products, and a number by a small one, and moved bits are, as numbers. -/
namespace Go.Proofs.YtlfpnohpcemkgaaDoor.V
set_option linter.unusedVariables false
set_option linter.unusedSimpArgs false
open Go.RowKit Go.Proofs.YtlfpnohpcemkgaaDoor.PA Go.Proofs.YtlfpnohpcemkgaaDoor.H Go.Proofs.YtlfpnohpcemkgaaDoorW.PrintWords Go.Proofs.YtlfpnohpcemkgaaDoorW.PrintLast Go.Proofs.YtlfpnohpcemkgaaDoorW.PrintMore

theorem mul_bd {x y X Y : Int} (h0 : 0 ≤ x) (h1 : x ≤ X) (g0 : 0 ≤ y) (g1 : y ≤ Y) : 0 ≤ x * y ∧ x * y ≤ X * Y :=
  ⟨Int.mul_nonneg h0 g0, Int.mul_le_mul h1 g1 g0 (by omega)⟩
theorem mul_bd32 {x y : Int} (hx : 0 ≤ x ∧ x < 4294967296) (hy : 0 ≤ y ∧ y < 4294967296) : 0 ≤ x * y ∧ x * y ≤ 18446744065119617025 :=
  mul_bd hx.1 (show x ≤ 4294967295 by omega) hy.1 (show y ≤ 4294967295 by omega)
theorem getD_get (l : List Int) (i : Nat) (h : i < l.length) : l.getD i 0 = l[i] := by simp [List.getD_eq_getElem?_getD, h]
theorem getD_set_ne (l : List Int) (i p : Nat) (x : Int) (h : i ≠ p) : (l.set i x).getD p 0 = l.getD p 0 := by
  simp [List.getD_eq_getElem?_getD, h]
/-- Noughts from a place on. -/
def Zf (l : List Int) (n : Nat) : Prop := ∀ p, n ≤ p → l.getD p 0 = 0
theorem Zf.set {l : List Int} {n i : Nat} {x : Int} (h : Zf l n) (hi : i < n) : Zf (l.set i x) n := fun p hp => by
  rw [getD_set_ne _ _ _ _ (by omega)]; exact h p hp
theorem Zf.zeros (m n : Nat) : Zf (List.replicate m 0) n := fun p _ => by
  rw [List.getD_eq_getElem?_getD]
  by_cases h : p < m <;> simp [h]
theorem step_mul {W V0 Pi pj P x y c q r vb o : Int} (h : W + P * c = V0 + Pi * x * vb) (e : r + 4294967296 * q = c + (x * y + o)) (hP : P = Pi * pj) : W + P * (r - o) + (4294967296 * P) * q = V0 + Pi * x * (vb + pj * y) := by
  subst hP
  grind
theorem mul_l1 (a b : List Int) (ha : Lim a) (hb : Lim b) (hna : a.length < 1000000000) (hnb : b.length < 1000000000) (i : Nat) (hi : i < a.length) (x V0 : Int) (hx : 0 ≤ x ∧ x < 4294967296) (r : List Int)
    (hc : ∀ out, out.length = a.length + b.length → Lim out → val out = V0 + pw i * x * val b → Zf out (i + 1 + b.length) → Ev (fun k => nat_Mul.l0 k b out a (a.length : Int) ((i + 1 : Nat) : Int)) r) (d : Nat) : ∀ (j : Nat) (out : List Int) (c : Int), j + d = b.length → out.length = a.length + b.length → Lim out → 0 ≤ c → c < 4294967296 → val out + pw (i + j) * c = V0 + pw i * x * val (b.take j) → Zf out (i + b.length) →
    Ev (fun k => nat_Mul.l1 k b out (i : Int) x c a (a.length : Int) (i : Int) (b.length : Int) (j : Int)) r := by
  induction d with
  | zero =>
    intro j out c hj ho hL c0 c1 hv hz
    obtain rfl : j = b.length := by omega
    have hp : i + b.length < out.length := by omega
    refine Ev.step (fun k => ?_) (hc (out.set (i + b.length) c) (by simpa using ho) (hL.set _ c0 c1) ?_ ?_)
    · simp only [nat_Mul.l1]
      rw [if_neg (by omega), w64 (by omega) (by omega), if_pos (by omega), if_pos (by omega), w64 (by omega) (by omega), show ((i : Int) + (b.length : Int)).toNat = i + b.length by omega, show c % 4294967296 = c by omega]
      rfl
    · have h0 := hz (i + b.length) (Nat.le_refl _)
      rw [getD_get _ _ hp] at h0
      rw [val_set _ _ _ hp, h0]
      rw [List.take_of_length_le (by omega)] at hv
      rw [Int.sub_zero]; exact hv
    · intro p hpp
      rw [getD_set_ne _ _ _ _ (by omega)]
      exact hz p (by omega)
  | succ d ih =>
    intro j out c hj ho hL c0 c1 hv hz
    have hjb : j < b.length := by omega
    have hp : i + j < out.length := by omega
    have gb := hb.get j hjb
    have go := hL.get (i + j) hp
    have hm := mul_bd32 hx gb
    refine Ev.step (fun k => ?_) (ih (j + 1) (out.set (i + j) ((c + (x * b[j] + out[i + j])) % 4294967296)) ((c + (x * b[j] + out[i + j])) / 4294967296) (by omega) (by simpa using ho) (hL.set _ (by omega) (by omega)) (by omega) (by omega) ?_ (hz.set (by omega)))
    · simp only [nat_Mul.l1]
      rw [if_pos (by omega), if_pos (by omega), if_pos (by omega), w64 (x := (i : Int) + (j : Int)) (by omega) (by omega), if_pos (by omega), if_pos (by omega), show ((i : Int) + (j : Int)) = ((i + j : Nat) : Int) by omega, rd_get _ _ hp, rd_get _ _ hjb, u64 (x := x) (by omega) (by omega), u64 (x := b[j]) (by omega) (by omega), u64 (x := x * b[j]) (by omega) (by omega), u64 (x := out[i + j]) (by omega) (by omega), u64 (x := x * b[j] + out[i + j]) (by omega) (by omega), u64 (by omega) (by omega), w64 (by omega) (by omega), Int.toNat_natCast]
      rfl
    · rw [val_set _ _ _ hp, val_take_succ _ _ hjb, ← Nat.add_assoc, pw_succ]
      exact step_mul hv (by omega) (pw_add i j)
theorem mul_l0 (a b : List Int) (ha : Lim a) (hb : Lim b) (hna : a.length < 1000000000) (hnb : b.length < 1000000000) (d : Nat) : ∀ (i : Nat) (out : List Int), i + d = a.length → out.length = a.length + b.length → Lim out → val out = val (a.take i) * val b → Zf out (i + b.length) →
    Ev (fun k => nat_Mul.l0 k b out a (a.length : Int) (i : Int)) (dig (val a * val b)) := by
  induction d with
  | zero =>
    intro i out hi ho hL hv hz
    obtain rfl : i = a.length := by omega
    refine Ev.step (f := fun _ => some _) (fun k => ?_) (Ev.now _)
    simp only [nat_Mul.l0]
    rw [if_neg (by omega), norm_ev out hL (by omega), hv, List.take_of_length_le (by omega)]
    rfl
  | succ d ih =>
    intro i out hi ho hL hv hz
    have hia : i < a.length := by omega
    have ga := ha.get i hia
    refine Ev.step (fun k => ?_) (mul_l1 a b ha hb hna hnb i hia a[i] (val (a.take i) * val b) ga _ (fun out' h1 h2 h3 h4 => ih (i + 1) out' (by omega) h1 h2 ?_ h4) b.length 0 out 0 (by omega) ho hL (by omega) (by omega) ?_ hz)
    · simp only [nat_Mul.l0]
      rw [if_pos (by omega), if_pos (by omega), if_pos (by omega), rd_get _ _ hia]
      rfl
    · rw [h3, val_take_succ _ _ hia]; grind
    · simp [hv, val]
theorem mul_ev (a b : List Int) (ha : Lim a) (hb : Lim b) (hna : a.length < 1000000000) (hnb : b.length < 1000000000) : Ev (fun k => nat_Mul.f k a b) (dig (val a * val b)) := by
  refine Ev.congr (fun k => ?_) (mul_l0 a b ha hb hna hnb a.length 0 (List.replicate (a.length + b.length) 0) (by omega) (by simp) (Lim.zeros _) (by simp [val, val_zeros]) (Zf.zeros _ _))
  unfold nat_Mul.f
  rw [w64 (by omega) (by omega), if_pos (by omega), if_pos (by omega), show ((a.length : Int) + (b.length : Int)).toNat = a.length + b.length by omega]
  rfl

/-! ### a number by a small one -/
theorem wraps_u64 (n : Int) (h0 : 0 ≤ n) (h1 : n < 2 ^ 64) : IntKind.u64.wrap n = n := u64 h0 (by omega)
theorem or_join {x y : Int} (hx : 0 ≤ x ∧ x < 4294967296) (hy : 0 ≤ y ∧ y < 4294967296) : Go.bits .or .u64 (x * 4294967296) y = x * 4294967296 + y :=
  bits_join .u64 64 (by decide) wraps_u64 32 _ _ (by omega) (by omega) (by omega) hy.1 (by omega) (by omega)
theorem div_unique {a b q r : Int} (hb : 0 < b) (h : q * b + r = a) (h0 : 0 ≤ r) (h1 : r < b) : a / b = q ∧ a % b = r :=
  (Int.ediv_emod_unique hb).2 ⟨by rw [← h, Int.mul_comm]; omega, h0, h1⟩
theorem drop_set_self (l : List Int) (i : Nat) (x : Int) (h : i < l.length) : (l.set i x).drop i = x :: l.drop (i + 1) := by
  rw [List.drop_eq_getElem_cons (by simpa using h)]
  simp [List.drop_set_of_lt]
theorem small_l0 (a : List Int) (n : Int) (ha : Lim a) (hn0 : 0 < n) (hn1 : n ≤ 4294967296) (hna : a.length < 1000000000) (d : Nat) : ∀ (out : List Int) (r : Int), d ≤ a.length → out.length = a.length → Lim out → 0 ≤ r → r < n → val (out.drop d) * n + r = val (a.drop d) →
    Ev (fun k => nat_small.l0 k a n out r ((d : Int) - 1)) (dig (val a / n), val a % n) := by
  induction d with
  | zero =>
    intro out r hd ho hL r0 r1 hv
    refine Ev.step (f := fun _ => some _) (fun k => ?_) (Ev.now _)
    simp only [nat_small.l0]
    rw [if_neg (by omega), norm_ev out hL (by omega)]
    simp only [List.drop_zero] at hv
    obtain ⟨e1, e2⟩ := div_unique hn0 hv r0 r1
    rw [e1, e2]
    rfl
  | succ d ih =>
    intro out r hd ho hL r0 r1 hv
    have hda : d < a.length := by omega
    have hdo : d < out.length := by omega
    have ga := ha.get d hda
    have ho1 : Go.bits .or .u64 (IntKind.u64.wrap (r * 4294967296)) (IntKind.u64.wrap a[d]) = r * 4294967296 + a[d] := by
      rw [u64 (by omega) (by omega), u64 (by omega) (by omega)]
      exact or_join ⟨r0, by omega⟩ ga
    have hX0 : 0 ≤ r * 4294967296 + a[d] := by omega
    have hq0 : 0 ≤ (r * 4294967296 + a[d]) / n := Int.ediv_nonneg hX0 (by omega)
    have hq1 : (r * 4294967296 + a[d]) / n < 4294967296 := by
      apply Int.ediv_lt_of_lt_mul hn0
      have : (r + 1) * 4294967296 ≤ n * 4294967296 := Int.mul_le_mul_of_nonneg_right (by omega) (by omega)
      omega
    have hm0 := Int.emod_nonneg (r * 4294967296 + a[d]) (show n ≠ 0 by omega)
    have hm1 := Int.emod_lt_of_pos (r * 4294967296 + a[d]) hn0
    have hqr := Int.mul_ediv_add_emod (r * 4294967296 + a[d]) n
    refine Ev.step (fun k => ?_) (ih (out.set d ((r * 4294967296 + a[d]) / n)) ((r * 4294967296 + a[d]) % n) (by omega) (by simpa using ho) (hL.set _ hq0 hq1) hm0 hm1 ?_)
    · simp only [nat_small.l0]
      have e : ((d + 1 : Nat) : Int) - 1 = (d : Int) := by omega
      rw [e, if_pos (by omega), if_pos (by omega), if_pos (by omega), if_neg (by omega), if_pos (by omega), rd_get _ _ hda, ho1, Int.tdiv_eq_ediv_of_nonneg hX0, Int.tmod_eq_emod_of_nonneg hX0, u64 hq0 (by omega), Int.emod_eq_of_lt hq0 hq1, w64 (by omega) (by omega), Int.toNat_natCast]
    · rw [drop_set_self _ _ _ hdo, val_drop_cons _ _ hda]
      simp only [val]
      rw [← hv]
      generalize (r * 4294967296 + a[d]) / n = q at *
      generalize (r * 4294967296 + a[d]) % n = s at *
      grind
theorem small_ev (a : List Int) (n : Int) (ha : Lim a) (hn0 : 0 < n) (hn1 : n ≤ 4294967296) (hna : a.length < 1000000000) : Ev (fun k => nat_small.f k a n) (dig (val a / n), val a % n) := by
  refine Ev.congr (fun k => ?_) (small_l0 a n ha hn0 hn1 hna a.length (List.replicate a.length 0) 0 (Nat.le_refl _) (by simp) (Lim.zeros _) (by omega) (by omega) (by rw [List.drop_eq_nil_of_le (by simp), List.drop_eq_nil_of_le (by omega)]; simp [val]))
  unfold nat_small.f
  rw [if_pos (by omega), if_pos (by omega), w64 (by omega) (by omega), Int.toNat_natCast]

/-! ### moved bits -/
theorem wraps_u32 (n : Int) (h0 : 0 ≤ n) (h1 : n < 2 ^ 32) : IntKind.u32.wrap n = n := by rw [IntKind.wrap_u32]; omega
theorem or_comm_ (k : IntKind) (x y : Int) : Go.bits .or k x y = Go.bits .or k y x := by
  simp only [Go.bits, BitVec.or_comm]
theorem p_pos (n : Nat) : (0 : Int) < 2 ^ n := Int.pow_pos (by omega)
theorem p_split {n : Nat} (hn : n ≤ 32) : (2 : Int) ^ n * 2 ^ (32 - n) = 4294967296 := by
  rw [← Int.pow_add, show n + (32 - n) = 32 by omega]; rfl
theorem p_le {n : Nat} (hn : n ≤ 31) : (2 : Int) ^ n ≤ 2147483648 := by
  have := Nat.pow_le_pow_right (n := 2) (by omega) hn
  have e : (2 : Int) ^ n = ((2 ^ n : Nat) : Int) := by simp
  omega
theorem or_low {n : Nat} (hn : n ≤ 31) {x y : Int} (hx0 : 0 ≤ x) (hx1 : x < 2 ^ n) (hy0 : 0 ≤ y) (hy1 : y < 4294967296) (hy : y % 2 ^ n = 0) : Go.bits .or .u32 x y = x + y := by
  have := p_le hn
  rw [or_comm_, bits_join .u32 32 (by decide) wraps_u32 n y x hy0 hy (by omega) hx0 hx1 (by omega)]
  omega
theorem shl_u64 (x : Int) (n : Nat) (hn : n ≤ 31) (hx : 0 ≤ x ∧ x < 4294967296) : shl .u64 x (n : Int) = x * 2 ^ n ∧ 0 ≤ x * 2 ^ n ∧ x * 2 ^ n < 9223372036854775808 := by
  have h1 := p_pos n
  have h2 := p_le hn
  have h3 := mul_bd hx.1 (show x ≤ 4294967295 by omega) (Int.le_of_lt h1) h2
  refine ⟨?_, h3.1, by omega⟩
  unfold shl
  rw [Int.toNat_natCast, Nat.min_eq_left (by simp [IntKind.bits]; omega), u64 h3.1 (by omega)]
theorem mulmod_p {n : Nat} (hn : n ≤ 31) (x : Int) : (x * 2 ^ n) % 4294967296 % 2 ^ n = 0 := by
  rw [Int.emod_emod_of_dvd _ ⟨2 ^ (32 - n), (p_split (by omega)).symm⟩, Int.mul_emod_left]
theorem left_l0 (a : List Int) (n : Nat) (ha : Lim a) (hn : n ≤ 31) (hna : a.length < 1000000000) (d : Nat) : ∀ (i : Nat) (out : List Int), i + d = a.length → out.length = a.length + 1 → Lim out → out.getD i 0 < 2 ^ n → val (out.take (i + 1)) = val (a.take i) * 2 ^ n →
    ∃ o, Ev (fun k => nat_left.l0 k (n : Int) out a (a.length : Int) (i : Int)) o ∧ o.length = a.length + 1 ∧ Lim o ∧ val o = val a * 2 ^ n := by
  have hp := p_pos n
  have hp1 := p_le hn
  induction d with
  | zero =>
    intro i out hi ho hL h1 hv
    obtain rfl : i = a.length := by omega
    rw [List.take_of_length_le (by omega), List.take_of_length_le (by omega)] at hv
    refine ⟨out, Ev.step (f := fun _ => some _) (fun k => ?_) (Ev.now _), ho, hL, hv⟩
    simp only [nat_left.l0]
    rw [if_neg (by omega)]
  | succ d ih =>
    intro i out hi ho hL h1 hv
    have hia : i < a.length := by omega
    have hio : i < out.length := by omega
    have hio' : i + 1 < out.length := by omega
    have ga := ha.get i hia
    have go := hL.get i hio
    rw [getD_get _ _ hio] at h1
    obtain ⟨s1, s2, s3⟩ := shl_u64 a[i] n hn ga
    have hlow := mulmod_p hn a[i]
    have hor := or_low hn go.1 h1 (show 0 ≤ (a[i] * 2 ^ n) % 4294967296 by omega) (by omega) hlow
    have hq : (a[i] * 2 ^ n) / 4294967296 < 2 ^ n := by
      apply Int.ediv_lt_of_lt_mul (by omega)
      rw [Int.mul_comm (a[i])]
      exact Int.mul_lt_mul_of_pos_left ga.2 hp
    have hsum : out[i] + (a[i] * 2 ^ n) % 4294967296 < 4294967296 := by
      -- the low part is a multiple of 2^n below 2^32
      have e := Int.mul_ediv_add_emod ((a[i] * 2 ^ n) % 4294967296) (2 ^ n)
      rw [hlow] at e
      have hs := p_split (n := n) (by omega)
      have hs0 := p_pos (32 - n)
      have : (a[i] * 2 ^ n) % 4294967296 / 2 ^ n < 2 ^ (32 - n) := by
        apply Int.ediv_lt_of_lt_mul hp
        rw [Int.mul_comm (2 ^ (32 - n)), hs]; omega
      have h5 : 2 ^ n * ((a[i] * 2 ^ n) % 4294967296 / 2 ^ n + 1) ≤ 2 ^ n * 2 ^ (32 - n) := Int.mul_le_mul_of_nonneg_left (by omega) (Int.le_of_lt hp)
      rw [Int.mul_add, Int.mul_one] at h5
      omega
    have hstep := fun o' h2 h3 h4 h5 => ih (i + 1) o' (by omega) h2 h3 h4 h5
    obtain ⟨o, ho1, ho2, ho3, ho4⟩ := hstep ((out.set i (out[i] + (a[i] * 2 ^ n) % 4294967296)).set (i + 1) ((a[i] * 2 ^ n) / 4294967296)) (by simpa using ho) ((hL.set i (by omega) hsum).set (i + 1) (by omega) (by omega)) (by rw [getD_get _ _ (by simpa using hio')]; simpa using hq) (by
      rw [val_set_take _ _ _ (by simpa using hio'), val_set_take _ _ _ hio]
      rw [val_take_succ _ _ hio] at hv
      rw [val_take_succ _ _ hia, pw_succ]
      have e := Int.mul_ediv_add_emod (a[i] * 2 ^ n) 4294967296
      generalize a[i] * 2 ^ n / 4294967296 = q at *
      generalize a[i] * 2 ^ n % 4294967296 = r at *
      grind)
    refine ⟨o, Ev.step (fun k => ?_) ho1, ho2, ho3, ho4⟩
    simp only [nat_left.l0]
    rw [if_pos (by omega), if_pos (by omega), if_pos (by omega), if_pos (by omega), if_pos (by omega), w64 (by omega) (by omega), if_pos (by omega), if_pos (by omega), rd_get _ _ hio, rd_get _ _ hia, u64 (x := a[i]) ga.1 (by omega), s1, hor, Int.toNat_natCast, show ((i : Int) + 1).toNat = i + 1 by omega, Int.emod_eq_of_lt (a := a[i] * 2 ^ n / 4294967296) (by omega) (by omega)]
    rfl
theorem left_ev (a : List Int) (n : Nat) (ha : Lim a) (hn : n ≤ 31) (hna : a.length < 1000000000) : ∃ o, Ev (fun k => nat_left.f k a (n : Int)) o ∧ o.length = a.length + 1 ∧ Lim o ∧ val o = val a * 2 ^ n := by
  obtain ⟨o, h1, h2⟩ := left_l0 a n ha hn hna a.length 0 (List.replicate (a.length + 1) 0) (by omega) (by simp) (Lim.zeros _) (by have := p_pos n; simp; exact this) (by simp [val, List.replicate_succ])
  refine ⟨o, Ev.congr (fun k => ?_) h1, h2⟩
  unfold nat_left.f
  rw [w64 (by omega) (by omega), if_pos (by omega), if_pos (by omega), show ((a.length : Int) + 1).toNat = a.length + 1 by omega]
  rfl
theorem shr_u64 (x : Int) (n : Nat) (hn : n ≤ 31) : shr .u64 x (n : Int) = x / 2 ^ n := by
  unfold shr
  rw [Int.toNat_natCast, Nat.min_eq_left (by simp [IntKind.bits]; omega)]
/-- One limb of a number moved down. -/
theorem right_limb {p s X a : Int} (hp : 0 < p) (hs : 0 < s) (hps : p * s = 4294967296) (hX : 0 ≤ X ∧ X < 4294967296) (ha : 0 ≤ a ∧ a < 4294967296) : ((X * 4294967296 + a) / p % 4294967296) * p = (X % p) * 4294967296 + (a - a % p) ∧ 0 ≤ (X * 4294967296 + a) / p % 4294967296 ∧ (X * 4294967296 + a) / p % 4294967296 < 4294967296 := by
  have e1 : X * 4294967296 + a = a + p * (X * s) := by rw [← hps]; grind
  have e2 : (X * 4294967296 + a) / p = a / p + X * s := by rw [e1, Int.add_mul_ediv_left _ _ (by omega)]
  have e3 := Int.mul_ediv_add_emod X p
  have e4 := Int.mul_ediv_add_emod a p
  have m0 := Int.emod_nonneg X (show p ≠ 0 by omega)
  have m1 := Int.emod_lt_of_pos X hp
  have h0 : 0 ≤ a / p := Int.ediv_nonneg ha.1 (by omega)
  have h1 : a / p < s := Int.ediv_lt_of_lt_mul hp (by rw [Int.mul_comm s, hps]; exact ha.2)
  have e5 : (X * 4294967296 + a) / p = (X / p) * 4294967296 + ((X % p) * s + a / p) := by
    rw [e2, ← hps]
    generalize X / p = u at *
    generalize X % p = v at *
    generalize a / p = t at *
    subst e3
    grind
  have hb0 : 0 ≤ (X % p) * s := Int.mul_nonneg m0 (by omega)
  have hb1 : (X % p + 1) * s ≤ p * s := Int.mul_le_mul_of_nonneg_right (by omega) (by omega)
  rw [Int.add_mul, Int.one_mul, hps] at hb1
  have e6 : (X * 4294967296 + a) / p % 4294967296 = (X % p) * s + a / p := by
    rw [e5]
    generalize X % p * s = z at *
    omega
  refine ⟨?_, by omega, by omega⟩
  rw [e6]
  have : (X % p * s + a / p) * p = (X % p) * (p * s) + p * (a / p) := by grind
  rw [this, hps]
  omega
theorem right_l0 (a : List Int) (n : Nat) (ha : Lim a) (hn : n ≤ 31) (hna : a.length < 1000000000) (d : Nat) : ∀ (i : Nat) (out : List Int), i + d = a.length → out.length = a.length → Lim out → val (out.take i) * 2 ^ n + a.getD 0 0 % 2 ^ n = val (a.take i) + pw i * (a.getD i 0 % 2 ^ n) →
    Ev (fun k => nat_right.l0 k a (n : Int) out (a.length : Int) (i : Int)) (dig (val a / 2 ^ n)) := by
  have hp := p_pos n
  induction d with
  | zero =>
    intro i out hi ho hL hv
    obtain rfl : i = a.length := by omega
    refine Ev.step (f := fun _ => some _) (fun k => ?_) (Ev.now _)
    simp only [nat_right.l0]
    rw [if_neg (by omega), norm_ev out hL (by omega)]
    simp only [Option.bind_some]
    rw [List.take_of_length_le (by omega), List.take_of_length_le (by omega), List.getD_eq_getElem?_getD (i := a.length), List.getElem?_eq_none (by omega)] at hv
    simp only [Option.getD_none, Int.zero_emod, Int.mul_zero, Int.add_zero] at hv
    have h0 := Int.emod_nonneg (a.getD 0 0) (show (2 : Int) ^ n ≠ 0 by omega)
    have h1 := Int.emod_lt_of_pos (a.getD 0 0) hp
    rw [(div_unique hp hv h0 h1).1]
  | succ d ih =>
    intro i out hi ho hL hv
    have hia : i < a.length := by omega
    have hio : i < out.length := by omega
    have ga := ha.get i hia
    have gx := ha.getD (i + 1)
    obtain ⟨e1, e2, e3⟩ := right_limb hp (p_pos (32 - n)) (p_split (by omega)) gx ga
    refine Ev.step (fun k => ?_) (ih (i + 1) (out.set i ((a.getD (i + 1) 0 * 4294967296 + a[i]) / 2 ^ n % 4294967296)) (by omega) (by simpa using ho) (hL.set _ e2 e3) ?_)
    · simp only [nat_right.l0]
      rw [if_pos (by omega), w64 (x := (i : Int) + 1) (by omega) (by omega), show (i : Int) + 1 = ((i + 1 : Nat) : Int) by omega, limb_ev _ _ ha]
      simp only [Option.bind_some]
      rw [if_pos (by omega), if_pos (by omega), if_pos (by omega), if_pos (by omega), rd_get _ _ hia, u64 (x := a[i]) ga.1 (by omega), u64 (x := a.getD (i + 1) 0 * 4294967296) (by omega) (by omega), or_join gx ga, shr_u64 _ _ hn, Int.toNat_natCast]
    · rw [val_set_take _ _ _ hio, val_take_succ _ _ hia, pw_succ]
      rw [getD_get _ _ hia] at hv
      generalize (a.getD (i + 1) 0 * 4294967296 + a[i]) / 2 ^ n % 4294967296 = z at *
      generalize a.getD (i + 1) 0 % 2 ^ n = y at *
      generalize a[i] % 2 ^ n = w at *
      generalize (2 : Int) ^ n = p at *
      grind
theorem right_ev (a : List Int) (n : Nat) (ha : Lim a) (hn : n ≤ 31) (hna : a.length < 1000000000) : Ev (fun k => nat_right.f k a (n : Int)) (dig (val a / 2 ^ n)) := by
  refine Ev.congr (fun k => ?_) (right_l0 a n ha hn hna a.length 0 (List.replicate a.length 0) (by omega) (by simp) (Lim.zeros _) (by simp [val, pw_zero]))
  unfold nat_right.f
  rw [if_pos (by omega), if_pos (by omega)]
  simp only [Int.toNat_natCast]
  rfl
end Go.Proofs.YtlfpnohpcemkgaaDoor.V
/- The reference's numbers by bits, the lowest one first: what its functions compute, as numbers. -/
namespace Go.Proofs.YtlfpnohpcemkgaaDoor.V
set_option linter.unusedVariables false
set_option linter.unusedSimpArgs false
open Go.RowKit Go.Proofs.YtlfpnohpcemkgaaDoor.PA Go.Proofs.YtlfpnohpcemkgaaDoor.H Go.Proofs.YtlfpnohpcemkgaaDoorW.PrintWords Go.Proofs.YtlfpnohpcemkgaaDoorW.PrintLast Go.Proofs.YtlfpnohpcemkgaaDoorW.PrintMore

def b2i (b : Bool) : Int := if b then 1 else 0
theorem b2i_rng (b : Bool) : 0 ≤ b2i b ∧ b2i b ≤ 1 := by cases b <;> simp [b2i]
/-- What bits are worth. -/
def bval : List Bool → Int
  | [] => 0
  | b :: r => b2i b + 2 * bval r
def p2 (n : Nat) : Int := 2 ^ n
theorem p2_zero : p2 0 = 1 := rfl
theorem p2_succ (n : Nat) : p2 (n + 1) = 2 * p2 n := by unfold p2; rw [Int.pow_succ]; omega
theorem p2_pos (n : Nat) : 0 < p2 n := by
  induction n with
  | zero => decide
  | succ n ih => rw [p2_succ]; omega
theorem p2_add (m n : Nat) : p2 (m + n) = p2 m * p2 n := by unfold p2; exact Int.pow_add ..
theorem p2_le {a b : Nat} (h : a ≤ b) : p2 a ≤ p2 b := by
  obtain ⟨d, rfl⟩ := Nat.exists_eq_add_of_le h
  rw [p2_add]
  have := p2_pos a
  have := p2_pos d
  calc p2 a = p2 a * 1 := by omega
    _ ≤ _ := Int.mul_le_mul_of_nonneg_left (by omega) (by omega)
theorem pw_p2 (n : Nat) : pw n = p2 (32 * n) := by unfold pw p2; rw [show (4294967296 : Int) = 2 ^ 32 from rfl, Int.pow_mul]
theorem bval_nonneg (l : List Bool) : 0 ≤ bval l := by
  induction l with
  | nil => simp [bval]
  | cons b l ih => have := b2i_rng b; simp only [bval]; omega
theorem bval_lt (l : List Bool) : bval l < p2 l.length := by
  induction l with
  | nil => simp [bval, p2_zero]
  | cons b l ih => have := b2i_rng b; simp only [bval, List.length_cons, p2_succ]; omega
theorem bval_append (a b : List Bool) : bval (a ++ b) = bval a + p2 a.length * bval b := by
  induction a with
  | nil => simp [bval, p2_zero]
  | cons x a ih => simp only [List.cons_append, bval, ih, List.length_cons, p2_succ]; grind
theorem bval_snoc (a : List Bool) (x : Bool) : bval (a ++ [x]) = bval a + p2 a.length * b2i x := by rw [bval_append]; simp [bval]
/-- A number's bits, without noughts behind. -/
def bitN (n : Nat) : List Bool := if h : n = 0 then [] else decide (n % 2 = 1) :: bitN (n / 2)
termination_by n
decreasing_by omega
def bits (n : Int) : List Bool := bitN n.toNat
theorem bits_zero : bits 0 = [] := by unfold bits; rw [bitN]; rfl
theorem bval_bitN (n : Nat) : bval (bitN n) = n := by
  induction n using Nat.strongRecOn with
  | _ n ih =>
    rw [bitN]
    split
    · rename_i h; simp [bval, h]
    · simp only [bval]; rw [ih _ (by omega)]
      by_cases h : n % 2 = 1
      · rw [decide_eq_true h]; simp only [b2i, if_true]; omega
      · rw [decide_eq_false h]; simp only [b2i, Bool.false_eq_true, if_false]; omega
theorem bval_bits {n : Int} (h : 0 ≤ n) : bval (bits n) = n := by unfold bits; rw [bval_bitN]; omega
theorem bits_cons (b : Bool) (n : Int) (hn : 0 ≤ n) (h : b2i b + 2 * n ≠ 0) : bits (b2i b + 2 * n) = b :: bits n := by
  have hb := b2i_rng b
  unfold bits
  rw [bitN, dif_neg (by omega)]
  have e1 : decide ((b2i b + 2 * n).toNat % 2 = 1) = b := by
    cases b
    · rw [decide_eq_false]; simp only [b2i, Bool.false_eq_true, if_false]; omega
    · rw [decide_eq_true]; simp only [b2i, if_true]; omega
  have e2 : (b2i b + 2 * n).toNat / 2 = n.toNat := by omega
  rw [e1, e2]
theorem bits_nil {n : Int} (h : 0 ≤ n) : bits n = [] ↔ n = 0 := by
  constructor
  · intro e
    have := bval_bits h
    rw [e] at this
    exact this.symm
  · rintro rfl; exact bits_zero
theorem bits_snoc_false (l : List Bool) : bits (bval (l ++ [false])) = bits (bval l) := by
  rw [bval_snoc]; simp [b2i]
theorem bits_last (l : List Bool) : bits (bval (l ++ [true])) = l ++ [true] := by
  induction l with
  | nil => have := bits_cons true 0 (by omega) (by decide); rw [bits_zero] at this; simpa [bval] using this
  | cons b l ih =>
    have h0 := bval_nonneg (l ++ [true])
    have h1 : 0 < bval (l ++ [true]) := by
      rw [bval_snoc]
      have := bval_nonneg l
      have := p2_pos l.length
      simp [b2i]; omega
    have hb := b2i_rng b
    simp only [List.cons_append, bval]
    rw [bits_cons b _ h0 (by omega), ih]
theorem bits_length_le {n : Int} {k : Nat} (h0 : 0 ≤ n) (h : n < p2 k) : (bits n).length ≤ k := by
  induction k generalizing n with
  | zero => rw [p2_zero] at h; rw [show n = 0 by omega, bits_zero]; simp
  | succ k ih =>
    rw [p2_succ] at h
    by_cases hn : n = 0
    · rw [hn, bits_zero]; simp
    · have e : n = b2i (decide (n % 2 = 1)) + 2 * (n / 2) := by
        by_cases h : n % 2 = 1
        · rw [decide_eq_true h]; simp only [b2i, if_true]; omega
        · rw [decide_eq_false h]; simp only [b2i, Bool.false_eq_true, if_false]; omega
      rw [e, bits_cons _ _ (by omega) (by omega)]
      have := ih (n := n / 2) (by omega) (by omega)
      simp; omega
theorem lt_of_bits_length {n : Int} {k : Nat} (h0 : 0 ≤ n) (h : (bits n).length ≤ k) : n < p2 k := by
  have := bval_lt (bits n)
  rw [bval_bits h0] at this
  have := p2_le h
  omega
theorem rdOf_D (l : List Bool) (i : Nat) : rdOf false l (i : Int) = l.getD i false := by simp [rdOf]
theorem bval_take_getD (l : List Bool) (i : Nat) : bval (l.take (i + 1)) = bval (l.take i) + p2 i * b2i (l.getD i false) := by
  by_cases h : i < l.length
  · rw [List.take_succ_eq_append_getElem h, bval_snoc, List.length_take, Nat.min_eq_left (Nat.le_of_lt h)]
    simp [h]
  · rw [List.take_of_length_le (by omega), List.take_of_length_le (by omega), List.getD_eq_getElem?_getD, List.getElem?_eq_none (by omega)]
    simp [b2i]
theorem bval_drop_getD (l : List Bool) (i : Nat) : bval (l.drop i) = b2i (l.getD i false) + 2 * bval (l.drop (i + 1)) := by
  by_cases h : i < l.length
  · rw [List.drop_eq_getElem_cons h]
    simp [bval, h]
  · rw [List.drop_eq_nil_of_le (by omega), List.drop_eq_nil_of_le (by omega), List.getD_eq_getElem?_getD, List.getElem?_eq_none (by omega)]
    simp [b2i, bval]
theorem bval_take_drop (l : List Bool) (i : Nat) (h : i ≤ l.length) : bval l = bval (l.take i) + p2 i * bval (l.drop i) := by
  have := bval_append (l.take i) (l.drop i)
  rwa [List.take_append_drop, List.length_take, Nat.min_eq_left h] at this
def LB (l : List Bool) : Prop := l.length ≤ 1000000000
theorem btrim_l0 (l : List Bool) (hn : l.length ≤ 2000000000) (d : Nat) (hd : d ≤ l.length) (he : bval l = bval (l.take d)) : Ev (fun k => gudgeonref01_trim.l0 k l (d : Int)) (bits (bval l)) := by
  induction d with
  | zero =>
    refine Ev.step (f := fun _ => some _) (fun k => ?_) (Ev.now _)
    simp only [gudgeonref01_trim.l0]
    rw [if_neg (by omega), if_pos (by omega), if_pos (by omega), if_pos (by simp), he]
    simp [bval, bits_zero]
  | succ d ih =>
    have hdl : d < l.length := by omega
    have e1 : l.take (d + 1) = l.take d ++ [l[d]] := List.take_succ_eq_append_getElem hdl
    have hg : l.getD d false = l[d] := by simp [hdl]
    cases hb : l[d] with
    | true =>
      refine Ev.step (f := fun _ => some _) (fun k => ?_) (Ev.now _)
      simp only [gudgeonref01_trim.l0]
      rw [if_pos (by omega), w64 (x := ((d + 1 : Nat) : Int) - 1) (by omega) (by omega), show ((d + 1 : Nat) : Int) - 1 = (d : Int) by omega, if_pos (by omega), if_pos (by omega), rdOf_D, hg, hb, if_pos rfl, if_pos (by omega), if_pos (by omega), if_pos (by simp; omega), he, Int.toNat_natCast, e1, hb, bits_last]
      rfl
    | false =>
      rw [e1, hb] at he
      have : bval (l.take d ++ [false]) = bval (l.take d) := by rw [bval_snoc]; simp [b2i]
      rw [this] at he
      refine Ev.step (fun k => ?_) (ih (by omega) he)
      simp only [gudgeonref01_trim.l0]
      rw [if_pos (by omega), w64 (x := ((d + 1 : Nat) : Int) - 1) (by omega) (by omega), show ((d + 1 : Nat) : Int) - 1 = (d : Int) by omega, if_pos (by omega), if_pos (by omega), rdOf_D, hg, hb, if_neg (by decide)]
theorem btrim_ev (l : List Bool) (hn : l.length ≤ 2000000000) : Ev (fun k => gudgeonref01_trim.f k l) (bits (bval l)) :=
  Ev.congr (fun k => rfl) (btrim_l0 l hn l.length (Nat.le_refl _) (by rw [List.take_of_length_le (Nat.le_refl _)]))
theorem Bits_l1 (l : List Int) (hL : Lim l) (hn : l.length < 10000000) (i : Nat) (hi : i < l.length) (r : List Bool)
    (hc : ∀ out, out.length = 32 * (i + 1) → bval out = val (l.take (i + 1)) → Ev (fun k => gudgeonref01_Bits.l0 k l out ((i + 1 : Nat) : Int)) r) (d : Nat) : ∀ (j : Nat) (out : List Bool) (x : Int), j + d = 32 → out.length = 32 * i + j → 0 ≤ x → x < p2 d → bval out + p2 (32 * i + j) * x = val (l.take (i + 1)) →
    Ev (fun k => gudgeonref01_Bits.l1 k l out (i : Int) x (j : Int)) r := by
  induction d with
  | zero =>
    intro j out x hj ho x0 x1 hv
    rw [p2_zero] at x1
    obtain rfl : x = 0 := by omega
    rw [Int.mul_zero, Int.add_zero] at hv
    refine Ev.step (fun k => ?_) (hc out (by omega) hv)
    simp only [gudgeonref01_Bits.l1]
    rw [if_neg (by omega), w64 (by omega) (by omega)]
    rfl
  | succ d ih =>
    intro j out x hj ho x0 x1 hv
    rw [p2_succ] at x1
    have hbit : ((Int.tmod x 2) == 1) = decide (x % 2 = 1) := by
      rw [Int.tmod_eq_emod_of_nonneg x0, Bool.eq_iff_iff]; simp
    have hx32 : x < 4294967296 := by
      have := p2_le (show d + 1 ≤ 32 by omega)
      rw [p2_succ] at this
      have e : p2 32 = 4294967296 := rfl
      omega
    refine Ev.step (fun k => ?_) (ih (j + 1) (out ++ [decide (x % 2 = 1)]) (x / 2) (by omega) (by simp; omega) (by omega) (by omega) ?_)
    · simp only [gudgeonref01_Bits.l1]
      rw [if_pos (by omega), if_pos (by omega), hbit, Int.tdiv_eq_ediv_of_nonneg x0, Int.emod_eq_of_lt (a := x / 2) (by omega) (by omega), w64 (by omega) (by omega)]
      rfl
    · rw [bval_snoc, ho, ← Nat.add_assoc, p2_succ, ← hv]
      have e : b2i (decide (x % 2 = 1)) = x % 2 := by
        by_cases h : x % 2 = 1
        · rw [decide_eq_true h, h]; rfl
        · rw [decide_eq_false h]; simp only [b2i, Bool.false_eq_true, if_false]; omega
      rw [e]
      have := Int.mul_ediv_add_emod x 2
      generalize x / 2 = q at *
      generalize x % 2 = r at *
      grind
theorem Bits_l0 (l : List Int) (hL : Lim l) (hn : l.length < 10000000) (d : Nat) : ∀ (i : Nat) (out : List Bool), i + d = l.length → out.length = 32 * i → bval out = val (l.take i) →
    Ev (fun k => gudgeonref01_Bits.l0 k l out (i : Int)) (bits (val l)) := by
  induction d with
  | zero =>
    intro i out hi ho hv
    rw [List.take_of_length_le (by omega)] at hv
    have := btrim_ev out (by omega)
    rw [hv] at this
    refine Ev.step (fun k => ?_) (Ev.bind (f := fun _ t => some t) this (Ev.now _))
    simp only [gudgeonref01_Bits.l0]
    rw [if_neg (by omega)]
  | succ d ih =>
    intro i out hi ho hv
    have hil : i < l.length := by omega
    have g := hL.get i hil
    refine Ev.step (fun k => ?_) (Bits_l1 l hL hn i hil _ (fun out' h1 h2 => ih (i + 1) out' (by omega) h1 h2) 32 0 out l[i] (by omega) (by omega) g.1 g.2 ?_)
    · simp only [gudgeonref01_Bits.l0]
      rw [if_pos (by omega), if_pos (by omega), rd_get _ _ hil]
      rfl
    · rw [Nat.add_zero, hv, val_take_succ _ _ hil, pw_p2]
theorem Bits_ev (l : List Int) (hL : Lim l) (hn : l.length < 10000000) : Ev (fun k => gudgeonref01_Bits.f k l) (bits (val l)) :=
  Ev.congr (fun k => rfl) (Bits_l0 l hL hn l.length 0 [] (by omega) rfl (by simp [val, bval]))
theorem at_ev (l : List Bool) (i : Nat) : gudgeonref01_at.f l (i : Int) = some (l.getD i false) := by
  unfold gudgeonref01_at.f
  by_cases h : i < l.length
  · rw [if_pos (by omega), if_pos (by omega), rdOf_D]
  · rw [if_neg (by omega), List.getD_eq_getElem?_getD, List.getElem?_eq_none (by omega)]; rfl
theorem bits_bound {n : Int} {k : Nat} (h0 : 0 ≤ n) (h : n < p2 k) (hk : k ≤ 1000000000) : LB (bits n) := Nat.le_trans (bits_length_le h0 h) hk
/-! ### order -/
theorem bcmp_l0 (a b : List Bool) (ha : LB a) (hb : LB b) (m : Nat) (hma : a.length ≤ m) (hmb : b.length ≤ m) (hm : m ≤ 1000000000) (d : Nat) (hd : d ≤ m) (he : bval (a.drop d) = bval (b.drop d)) : Ev (fun k => gudgeonref01_cmp.l0 k a b ((d : Int) - 1)) (cmpI (bval a) (bval b)) := by
  induction d with
  | zero =>
    simp only [List.drop_zero] at he
    refine Ev.step (f := fun _ => some _) (fun k => ?_) (Ev.now _)
    simp only [gudgeonref01_cmp.l0]
    rw [if_neg (by omega), he]
    unfold cmpI
    rw [if_neg (by omega), if_neg (by omega)]
  | succ d ih =>
    have e0 : ((d + 1 : Nat) : Int) - 1 = (d : Int) := by omega
    have da := bval_drop_getD a d
    have db := bval_drop_getD b d
    have sa : bval a = bval (a.take d) + p2 d * bval (a.drop d) := by
      by_cases h : d ≤ a.length
      · exact bval_take_drop a d h
      · rw [List.take_of_length_le (by omega), List.drop_eq_nil_of_le (by omega)]; simp [bval]
    have sb : bval b = bval (b.take d) + p2 d * bval (b.drop d) := by
      by_cases h : d ≤ b.length
      · exact bval_take_drop b d h
      · rw [List.take_of_length_le (by omega), List.drop_eq_nil_of_le (by omega)]; simp [bval]
    have ta0 := bval_nonneg (a.take d)
    have tb0 := bval_nonneg (b.take d)
    have ta1 : bval (a.take d) < p2 d := by have := bval_lt (a.take d); have := p2_le (show (a.take d).length ≤ d by rw [List.length_take]; omega); omega
    have tb1 : bval (b.take d) < p2 d := by have := bval_lt (b.take d); have := p2_le (show (b.take d).length ≤ d by rw [List.length_take]; omega); omega
    have hp := p2_pos d
    rw [e0]
    cases hx : a.getD d false with
    | true =>
      cases hy : b.getD d false with
      | true =>
        refine Ev.step (f := fun k => gudgeonref01_cmp.j2 k a b (d : Int) true true false) (fun k => ?_) (Ev.step (fun k => ?_) (ih (by omega) (by rw [da, db, hx, hy, he])))
        · simp only [gudgeonref01_cmp.l0]
          rw [if_pos (by omega), at_ev, at_ev, hx, hy]
          simp only [Option.bind_some]
          rw [if_neg (by decide)]
        · simp only [gudgeonref01_cmp.j2]
          rw [if_neg (by decide), if_neg (by decide), w64 (by omega) (by omega)]
      | false =>
        refine Ev.step (f := fun k => gudgeonref01_cmp.j2 k a b (d : Int) true false true) (fun k => ?_) (Ev.step (f := fun _ => some _) (fun k => ?_) (Ev.now _))
        · simp only [gudgeonref01_cmp.l0]
          rw [if_pos (by omega), at_ev, at_ev, hx, hy]
          simp only [Option.bind_some]
          rw [if_pos (by decide)]
        · simp only [gudgeonref01_cmp.j2]
          rw [if_pos trivial]
          rw [hx] at da
          rw [hy] at db
          simp only [b2i, if_true, Bool.false_eq_true, if_false] at da db
          have : bval (a.drop d) = bval (b.drop d) + 1 := by omega
          rw [this, Int.mul_add, Int.mul_one] at sa
          unfold cmpI
          rw [if_neg (by omega), if_pos (by omega)]
    | false =>
      cases hy : b.getD d false with
      | true =>
        refine Ev.step (f := fun k => gudgeonref01_cmp.j2 k a b (d : Int) false true false) (fun k => ?_) (Ev.step (f := fun _ => some _) (fun k => ?_) (Ev.now _))
        · simp only [gudgeonref01_cmp.l0]
          rw [if_pos (by omega), at_ev, at_ev, hx, hy]
          simp only [Option.bind_some]
          rw [if_pos (by decide)]
        · simp only [gudgeonref01_cmp.j2]
          rw [if_neg (by decide), if_pos (by decide)]
          rw [hx] at da
          rw [hy] at db
          simp only [b2i, if_true, Bool.false_eq_true, if_false] at da db
          have : bval (b.drop d) = bval (a.drop d) + 1 := by omega
          rw [this, Int.mul_add, Int.mul_one] at sb
          unfold cmpI
          rw [if_pos (by omega)]
      | false =>
        refine Ev.step (f := fun k => gudgeonref01_cmp.j2 k a b (d : Int) false false false) (fun k => ?_) (Ev.step (fun k => ?_) (ih (by omega) (by rw [da, db, hx, hy, he])))
        · simp only [gudgeonref01_cmp.l0]
          rw [if_pos (by omega), at_ev, at_ev, hx, hy]
          simp only [Option.bind_some]
          rw [if_neg (by decide)]
        · simp only [gudgeonref01_cmp.j2]
          rw [if_neg (by decide), if_neg (by decide), w64 (by omega) (by omega)]
theorem bcmp_ev (a b : List Bool) (ha : LB a) (hb : LB b) : Ev (fun k => gudgeonref01_cmp.f k a b) (cmpI (bval a) (bval b)) := by
  have ha' := ha
  have hb' := hb
  unfold LB at ha' hb'
  by_cases h : b.length > a.length
  · refine Ev.congr (fun k => ?_) (Ev.step (g := fun k => gudgeonref01_cmp.j0 k a b (b.length : Int)) (fun k => ?_) (bcmp_l0 a b ha hb b.length (by omega) (Nat.le_refl _) hb' b.length (Nat.le_refl _) (by rw [List.drop_eq_nil_of_le (by omega), List.drop_eq_nil_of_le (by omega)])))
    · unfold gudgeonref01_cmp.f
      rw [if_pos (by omega)]
    · simp only [gudgeonref01_cmp.j0]
      rw [w64 (by omega) (by omega)]
  · refine Ev.congr (fun k => ?_) (Ev.step (g := fun k => gudgeonref01_cmp.j0 k a b (a.length : Int)) (fun k => ?_) (bcmp_l0 a b ha hb a.length (Nat.le_refl _) (by omega) ha' a.length (Nat.le_refl _) (by rw [List.drop_eq_nil_of_le (by omega), List.drop_eq_nil_of_le (by omega)])))
    · unfold gudgeonref01_cmp.f
      rw [if_neg (by omega)]
    · simp only [gudgeonref01_cmp.j0]
      rw [w64 (by omega) (by omega)]
/-! ### sums -/
theorem step_badd {V P c A B x y q r : Int} (h : V + P * c = A + B) (e : r + 2 * q = c + (x + y)) : V + P * r + (2 * P) * q = A + P * x + (B + P * y) := by grind
theorem badd_j2 (a b : List Bool) (out : List Bool) (c x y : Bool) (i : Nat) (n : Int) (hn : n = b2i x) (ho : out.length ≤ 2000000000) (hi : i ≤ 2000000000) (r : List Bool)
    (h : Ev (fun k => gudgeonref01_add.l0 k a b (out ++ [decide ((b2i x + b2i y + b2i c) % 2 = 1)]) (decide (b2i x + b2i y + b2i c > 1)) ((i + 1 : Nat) : Int)) r) : Ev (fun k => gudgeonref01_add.j2 k a b out c (i : Int) y n) r := by
  subst hn
  refine Ev.step (fun k => ?_) h
  simp only [gudgeonref01_add.j2]
  cases x <;> cases y <;> cases c <;> simp only [b2i, if_true, Bool.false_eq_true, if_false] <;> rw [if_pos (by omega), w64 (x := (i : Int) + 1) (by omega) (by omega)] <;> simp [w01, w11, w21]
theorem badd_l0 (a b : List Bool) (ha : LB a) (hb : LB b) (d : Nat) : ∀ (i : Nat) (out : List Bool) (c : Bool), i + d = max a.length b.length + 2 → out.length = i → bval out + p2 i * b2i c = bval (a.take i) + bval (b.take i) → (i = max a.length b.length + 1 → c = false) →
    i ≤ max a.length b.length + 1 → Ev (fun k => gudgeonref01_add.l0 k a b out c (i : Int)) (bits (bval a + bval b)) := by
  unfold LB at ha hb
  induction d with
  | zero => intro i out c hi; omega
  | succ d ih =>
    intro i out c hi ho hv hend hle
    have hta : bval (a.take (i + 1)) = _ := bval_take_getD a i
    have htb : bval (b.take (i + 1)) = _ := bval_take_getD b i
    have hgo : (a.length > i ∨ b.length > i ∨ c = true) → Ev (fun k => gudgeonref01_add.j1 k a b out c (i : Int) true) (bits (bval a + bval b)) := by
      intro hor
      have hile : i ≤ max a.length b.length := by
        by_cases h : i = max a.length b.length + 1
        · have := hend h
          subst this
          simp at hor
          omega
        · omega
      have hnext := ih (i + 1) (out ++ [decide ((b2i (a.getD i false) + b2i (b.getD i false) + b2i c) % 2 = 1)]) (decide (b2i (a.getD i false) + b2i (b.getD i false) + b2i c > 1)) (by omega) (by simp [ho]) (by
        rw [bval_snoc, ho, p2_succ, hta, htb]
        apply step_badd hv
        cases a.getD i false <;> cases b.getD i false <;> cases c <;> rfl) (by
        intro hmax
        have e1 : i = max a.length b.length := by omega
        have hxa : a.getD i false = false := by rw [List.getD_eq_getElem?_getD, List.getElem?_eq_none (by omega)]; rfl
        have hxb : b.getD i false = false := by rw [List.getD_eq_getElem?_getD, List.getElem?_eq_none (by omega)]; rfl
        rw [hxa, hxb]
        cases c <;> rfl) (by omega)
      refine Ev.step (f := fun k => gudgeonref01_add.j2 k a b out c (i : Int) (b.getD i false) (b2i (a.getD i false))) (fun k => ?_) (badd_j2 a b out c (a.getD i false) (b.getD i false) i _ rfl (by omega) (by omega) _ hnext)
      simp only [gudgeonref01_add.j1, if_true]
      rw [at_ev, at_ev]
      simp only [Option.bind_some]
      cases a.getD i false
      · rw [if_neg (by decide)]; rfl
      · rw [if_pos rfl]; rfl
    by_cases h1 : i < a.length
    · refine Ev.step (fun k => ?_) (hgo (.inl h1))
      simp only [gudgeonref01_add.l0]
      rw [if_pos (by omega)]
    by_cases h2 : i < b.length
    · refine Ev.step (fun k => ?_) (hgo (.inr (.inl h2)))
      simp only [gudgeonref01_add.l0]
      rw [if_neg (by omega), if_pos (by omega)]
    cases c with
    | true =>
      refine Ev.step (fun k => ?_) (hgo (.inr (.inr rfl)))
      simp only [gudgeonref01_add.l0]
      rw [if_neg (by omega), if_neg (by omega)]
    | false =>
      have ht := btrim_ev out (by omega)
      rw [List.take_of_length_le (by omega), List.take_of_length_le (by omega)] at hv
      simp only [b2i, Bool.false_eq_true, if_false, Int.mul_zero, Int.add_zero] at hv
      rw [hv] at ht
      refine Ev.step (f := fun k => gudgeonref01_add.j1 k a b out false (i : Int) false) (fun k => ?_) (Ev.step (fun k => ?_) (Ev.bind (f := fun _ t => some t) ht (Ev.now _)))
      · simp only [gudgeonref01_add.l0]
        rw [if_neg (by omega), if_neg (by omega)]
      · simp only [gudgeonref01_add.j1]
        rw [if_neg (by decide)]
theorem badd_ev (a b : List Bool) (ha : LB a) (hb : LB b) : Ev (fun k => gudgeonref01_add.f k a b) (bits (bval a + bval b)) :=
  Ev.congr (fun k => rfl) (badd_l0 a b ha hb (max a.length b.length + 2) 0 [] false (by omega) rfl (by simp [bval, b2i]) (fun _ => rfl) (by omega))
end Go.Proofs.YtlfpnohpcemkgaaDoor.V
/- Written by a program of this session, wip/tools/patch_print.py, over the kit's print of the loaded functions. -/
namespace Go.Proofs.YtlfpnohpcemkgaaDoor.H
end Go.Proofs.YtlfpnohpcemkgaaDoor.H
namespace Go.Proofs.YtlfpnohpcemkgaaDoor.PA
open Go.RowKit Go.Proofs.YtlfpnohpcemkgaaDoorW.PrintWords Go.Proofs.YtlfpnohpcemkgaaDoorW.PrintLast Go.Proofs.YtlfpnohpcemkgaaDoorW.PrintMore Go.Proofs.YtlfpnohpcemkgaaDoor.H
attribute [local go_sem] max2_int min2_int max_two min_two max_three min_three max_four min_four   -- for this text's walks alone
set_option linter.unusedVariables false
set_option linter.unusedSimpArgs false

/-! ### gudgeonref01_Add: function 27 -/
def gudgeonref01_Add.f (k : Nat) (l0 : List Int) (l1 : List Int) : Option (List Int) := (gudgeonref01_Bits.f k l0).bind fun t649 => ((gudgeonref01_Bits.f k l1).bind fun t652 => ((gudgeonref01_add.f k t649 t652).bind fun t655 => ((gudgeonref01_Limbs.f k t655).bind fun t658 => (some t658))))
theorem gudgeonref01_Add.mono : ∀ a0 a1 k, LeO (gudgeonref01_Add.f k a0 a1) (gudgeonref01_Add.f (k + 1) a0 a1) := by
 intro a0 a1 k
 unfold gudgeonref01_Add.f
 repeat' first
   | (with_reducible exact gudgeonref01_Bits.mono _ _)
   | (with_reducible exact gudgeonref01_Limbs.mono _ _)
   | (with_reducible exact gudgeonref01_add.mono _ _ _)
   | (with_reducible exact LeO.refl _)
   | (with_reducible exact LeO.none _)
   | (with_reducible refine LeO.ite ?_ ?_)
   | (with_reducible refine LeO.bind ?_ (fun _ => ?_))
   | exact gudgeonref01_Bits.mono _ _
   | exact gudgeonref01_Limbs.mono _ _
   | exact gudgeonref01_add.mono _ _ _
   | exact LeO.none _
   | refine LeO.ite ?_ ?_
   | refine LeO.bind ?_ (fun _ => ?_)
set_option maxHeartbeats 8000000 in
set_option maxRecDepth 100000 in
theorem gudgeonref01_Add.calls (k : Nat) (A0 : Option Addr) (c0 : Nat) (l0 : List Int) (A1 : Option Addr) (c1 : Nat) (l1 : List Int) (r : List Int) (w : World) (hr0 : Kd.C (Kd.int .u32) w A0 l0.length l0) (hc0 : l0.length ≤ c0) (hr1 : Kd.C (Kd.int .u32) w A1 l1.length l1) (hc1 : l1.length ≤ c1) (h : gudgeonref01_Add.f k l0 l1 = some r) :
  Calls Tryd.prog 27 #[.slice A0 l0.length c0, .slice A1 l1.length c1] w fun e w' => ∃ v0_ : Value, e = .returned (v0_) ∧ Kd.R (Kd.int .u32) 43 w' w.heap.size (fun _ => True) v0_ r ∧ Below w.heap.size w w' := by
 have HR0 := Aside0.mk hr0
 have HC0 := Aside0.mk hc0
 clear hr0 hc0
 have HR1 := Aside0.mk hr1
 have HC1 := Aside0.mk hc1
 clear hr1 hc1
 have HB := Aside0.mk (Below.refl w.heap.size w)
 have H : ((gudgeonref01_Bits.f k l0).bind fun t649 => ((gudgeonref01_Bits.f k l1).bind fun t652 => ((gudgeonref01_add.f k t649 t652).bind fun t655 => ((gudgeonref01_Limbs.f k t655).bind fun t658 => (some t658))))) = some r := h
 clear h
 replace H := Option.bind_eq_some_iff.mp H
 obtain ⟨t649, A30, H⟩ := H
 replace H : ((gudgeonref01_Bits.f k l1).bind fun t652 => ((gudgeonref01_add.f k t649 t652).bind fun t655 => ((gudgeonref01_Limbs.f k t655).bind fun t658 => (some t658)))) = some r := H
 have A3 := Aside0.mk A30
 clear A30
 replace H := Option.bind_eq_some_iff.mp H
 obtain ⟨t652, A40, H⟩ := H
 replace H : ((gudgeonref01_add.f k t649 t652).bind fun t655 => ((gudgeonref01_Limbs.f k t655).bind fun t658 => (some t658))) = some r := H
 have A4 := Aside0.mk A40
 clear A40
 replace H := Option.bind_eq_some_iff.mp H
 obtain ⟨t655, A50, H⟩ := H
 replace H : ((gudgeonref01_Limbs.f k t655).bind fun t658 => (some t658)) = some r := H
 have A5 := Aside0.mk A50
 clear A50
 replace H := Option.bind_eq_some_iff.mp H
 obtain ⟨t658, A60, H⟩ := H
 replace H : (some t658) = some r := H
 have A6 := Aside0.mk A60
 clear A60
 obtain rfl := Option.some.inj H
 go_enter Tryd.func27, Tryd.ntmps27
 go_wp2_with (first | ((with_reducible refine gate_callee (f := 41) rfl ?_); refine goesL_ (some 6) rfl rfl Tryd.func41 (by kernel_rfl) rfl #[.slice A0 l0.length c0] rfl (by (try simp only [List.map_toArray, List.map_cons, List.map_nil]); first | done | rfl | (simp only [List.length_drop, List.length_take]; rfl)) ?_; (with_reducible refine (gudgeonref01_Bits.calls k _ _ l0 t649 _ ?side1 ?side2 A3.out).mono ?_); (case side1 => repeat (first | exact HR0.out | (with_reducible refine Kd.C_alloc ?_ _) | (with_reducible refine Kd.C_drewN ?_ _) | (with_reducible refine Kd.C_drew ?_))); (case side2 => exact HC0.out); rintro e w7 ⟨v650, rfl, ho0, hb⟩; refine ⟨_, rfl, ?_⟩; have n0_ := Aside0.mk (Kd.R_lower ho0 (below_size (by repeat (first | (with_reducible first | exact HB.out | apply below_alloc | apply pw_below_drewN | apply below_drew1) | exact HB.out)))); have n1_ := Aside0.mk (below_step (by repeat (first | (with_reducible first | exact HB.out | apply below_alloc | apply pw_below_drewN | apply below_drew1) | exact HB.out)) hb); clear HB; have HO651 := n0_; have HB := n1_; clear n0_ n1_; (try clear hb); (try clear hb2); (try clear hk); (try clear hi); (try clear ho0)) | ((with_reducible refine gate_callee (f := 41) rfl ?_); refine goesL_ (some 8) rfl rfl Tryd.func41 (by kernel_rfl) rfl #[.slice A1 l1.length c1] rfl (by (try simp only [List.map_toArray, List.map_cons, List.map_nil]); first | done | rfl | (simp only [List.length_drop, List.length_take]; rfl)) ?_; (with_reducible refine (gudgeonref01_Bits.calls k _ _ l1 t652 _ ?side1 ?side2 A4.out).mono ?_); (case side1 => repeat (first | exact (Kd.C_below HR1.out HB.out) | (with_reducible refine Kd.C_alloc ?_ _) | (with_reducible refine Kd.C_drewN ?_ _) | (with_reducible refine Kd.C_drew ?_))); (case side2 => exact HC1.out); rintro e w8 ⟨v653, rfl, ho0, hb⟩; refine ⟨_, rfl, ?_⟩; have n0_ := Aside0.mk (Kd.R_elder' (by (with_reducible repeat (first | apply Kd.R_alloc | apply Kd.R_drewN | apply Kd.R_drew)); exact HO651.out) (Kd.R_base ho0) hb); have n1_ := Aside0.mk (Kd.R_lower (Kd.R_new' ho0 (Kd.R_lt (by (with_reducible repeat (first | apply Kd.R_alloc | apply Kd.R_drewN | apply Kd.R_drew)); exact HO651.out))) (below_size (by repeat (first | (with_reducible first | exact HB.out | apply below_alloc | apply pw_below_drewN | apply below_drew1) | exact HB.out)))); have n2_ := Aside0.mk (below_step (by repeat (first | (with_reducible first | exact HB.out | apply below_alloc | apply pw_below_drewN | apply below_drew1) | exact HB.out)) hb); clear HO651; clear HB; have HO651 := n0_; have HO654 := n1_; have HB := n2_; clear n0_ n1_ n2_; (try clear hb); (try clear hb2); (try clear hk); (try clear hi); (try clear ho0); obtain ⟨Ao9, co9, eo9⟩ := Kd.R_slice HO651.out; subst eo9; obtain ⟨Ao10, co10, eo10⟩ := Kd.R_slice HO654.out; subst eo10) | ((with_reducible refine gate_callee (f := 44) rfl ?_); refine goesL_ (some 9) rfl rfl Tryd.func44 (by kernel_rfl) rfl #[.slice Ao9 t649.length co9, .slice Ao10 t652.length co10] rfl (by (try simp only [List.map_toArray, List.map_cons, List.map_nil]); first | done | rfl | (simp only [List.length_drop, List.length_take]; rfl)) ?_; (with_reducible refine (gudgeonref01_add.calls k _ _ t649 _ _ t652 t655 _ ?side1 ?side2 ?side3 ?side4 A5.out).mono ?_); (case side1 => repeat (first | exact (Kd.R_reads' HO651.out).2.2 | (with_reducible refine Kd.C_alloc ?_ _) | (with_reducible refine Kd.C_drewN ?_ _) | (with_reducible refine Kd.C_drew ?_))); (case side2 => exact (Kd.R_reads' HO651.out).2.1); (case side3 => repeat (first | exact (Kd.R_reads' HO654.out).2.2 | (with_reducible refine Kd.C_alloc ?_ _) | (with_reducible refine Kd.C_drewN ?_ _) | (with_reducible refine Kd.C_drew ?_))); (case side4 => exact (Kd.R_reads' HO654.out).2.1); rintro e w11 ⟨v656, rfl, ho0, hb⟩; refine ⟨_, rfl, ?_⟩; have n0_ := Aside0.mk (Kd.R_elder' (by (with_reducible repeat (first | apply Kd.R_alloc | apply Kd.R_drewN | apply Kd.R_drew)); exact HO651.out) (Kd.R_base ho0) hb); have n1_ := Aside0.mk (Kd.R_elder' (by (with_reducible repeat (first | apply Kd.R_alloc | apply Kd.R_drewN | apply Kd.R_drew)); exact HO654.out) (Kd.R_base ho0) hb); have n2_ := Aside0.mk (Kd.R_lower (Kd.R_new' (Kd.R_new' ho0 (Kd.R_lt (by (with_reducible repeat (first | apply Kd.R_alloc | apply Kd.R_drewN | apply Kd.R_drew)); exact HO651.out))) (Kd.R_lt (by (with_reducible repeat (first | apply Kd.R_alloc | apply Kd.R_drewN | apply Kd.R_drew)); exact HO654.out))) (below_size (by repeat (first | (with_reducible first | exact HB.out | apply below_alloc | apply pw_below_drewN | apply below_drew1) | exact HB.out)))); have n3_ := Aside0.mk (below_step (by repeat (first | (with_reducible first | exact HB.out | apply below_alloc | apply pw_below_drewN | apply below_drew1) | exact HB.out)) hb); clear HO651; clear HO654; clear HB; have HO651 := n0_; have HO654 := n1_; have HO657 := n2_; have HB := n3_; clear n0_ n1_ n2_ n3_; (try clear hb); (try clear hb2); (try clear hk); (try clear hi); (try clear ho0); obtain ⟨Ao12, co12, eo12⟩ := Kd.R_slice HO657.out; subst eo12) | ((with_reducible refine gate_callee (f := 43) rfl ?_); refine goesL_ (some 10) rfl rfl Tryd.func43 (by kernel_rfl) rfl #[.slice Ao12 t655.length co12] rfl (by (try simp only [List.map_toArray, List.map_cons, List.map_nil]); first | done | rfl | (simp only [List.length_drop, List.length_take]; rfl)) ?_; (with_reducible refine (gudgeonref01_Limbs.calls k _ _ t655 t658 _ ?side1 ?side2 A6.out).mono ?_); (case side1 => repeat (first | exact (Kd.R_reads' HO657.out).2.2 | (with_reducible refine Kd.C_alloc ?_ _) | (with_reducible refine Kd.C_drewN ?_ _) | (with_reducible refine Kd.C_drew ?_))); (case side2 => exact (Kd.R_reads' HO657.out).2.1); rintro e w13 ⟨v659, rfl, ho0, hb⟩; refine ⟨_, rfl, ?_⟩; have n0_ := Aside0.mk (Kd.R_below (by (with_reducible repeat (first | apply Kd.R_alloc | apply Kd.R_drewN | apply Kd.R_drew)); exact HO651.out) hb); have n1_ := Aside0.mk (Kd.R_below (by (with_reducible repeat (first | apply Kd.R_alloc | apply Kd.R_drewN | apply Kd.R_drew)); exact HO654.out) hb); have n2_ := Aside0.mk (Kd.R_below (by (with_reducible repeat (first | apply Kd.R_alloc | apply Kd.R_drewN | apply Kd.R_drew)); exact HO657.out) hb); have n3_ := Aside0.mk (Kd.R_lower ho0 (below_size (by repeat (first | (with_reducible first | exact HB.out | apply below_alloc | apply pw_below_drewN | apply below_drew1) | exact HB.out)))); have n4_ := Aside0.mk (below_step (by repeat (first | (with_reducible first | exact HB.out | apply below_alloc | apply pw_below_drewN | apply below_drew1) | exact HB.out)) hb); clear HO651; clear HO654; clear HO657; clear HB; have HO651 := n0_; have HO654 := n1_; have HO657 := n2_; have HO660 := n3_; have HB := n4_; clear n0_ n1_ n2_ n3_ n4_; (try clear hb); (try clear hb2); (try clear hk); (try clear hi); (try clear ho0)))
 go_ret
 exact ⟨_, by first | rfl | (simp [errW_none, errW_some] <;> rfl) | (simp [*, errW_none, errW_some] <;> rfl), by (with_reducible repeat (first | apply Kd.R_alloc | apply Kd.R_drewN | apply Kd.R_drew)); exact HO660.out, by repeat (first | (with_reducible first | exact HB.out | apply below_alloc | apply pw_below_drewN | apply below_drew1) | exact HB.out)⟩

/-! ### gudgeonref01_Mul: function 28 -/
def gudgeonref01_Mul.f (k : Nat) (l0 : List Int) (l1 : List Int) : Option (List Int) := (gudgeonref01_Bits.f k l0).bind fun t661 => ((gudgeonref01_Bits.f k l1).bind fun t664 => ((gudgeonref01_mul.f k t661 t664).bind fun t667 => ((gudgeonref01_Limbs.f k t667).bind fun t670 => (some t670))))
theorem gudgeonref01_Mul.mono : ∀ a0 a1 k, LeO (gudgeonref01_Mul.f k a0 a1) (gudgeonref01_Mul.f (k + 1) a0 a1) := by
 intro a0 a1 k
 unfold gudgeonref01_Mul.f
 repeat' first
   | (with_reducible exact gudgeonref01_Bits.mono _ _)
   | (with_reducible exact gudgeonref01_Limbs.mono _ _)
   | (with_reducible exact gudgeonref01_mul.mono _ _ _)
   | (with_reducible exact LeO.refl _)
   | (with_reducible exact LeO.none _)
   | (with_reducible refine LeO.ite ?_ ?_)
   | (with_reducible refine LeO.bind ?_ (fun _ => ?_))
   | exact gudgeonref01_Bits.mono _ _
   | exact gudgeonref01_Limbs.mono _ _
   | exact gudgeonref01_mul.mono _ _ _
   | exact LeO.none _
   | refine LeO.ite ?_ ?_
   | refine LeO.bind ?_ (fun _ => ?_)
set_option maxHeartbeats 8000000 in
set_option maxRecDepth 100000 in
theorem gudgeonref01_Mul.calls (k : Nat) (A0 : Option Addr) (c0 : Nat) (l0 : List Int) (A1 : Option Addr) (c1 : Nat) (l1 : List Int) (r : List Int) (w : World) (hr0 : Kd.C (Kd.int .u32) w A0 l0.length l0) (hc0 : l0.length ≤ c0) (hr1 : Kd.C (Kd.int .u32) w A1 l1.length l1) (hc1 : l1.length ≤ c1) (h : gudgeonref01_Mul.f k l0 l1 = some r) :
  Calls Tryd.prog 28 #[.slice A0 l0.length c0, .slice A1 l1.length c1] w fun e w' => ∃ v0_ : Value, e = .returned (v0_) ∧ Kd.R (Kd.int .u32) 43 w' w.heap.size (fun _ => True) v0_ r ∧ Below w.heap.size w w' := by
 have HR0 := Aside0.mk hr0
 have HC0 := Aside0.mk hc0
 clear hr0 hc0
 have HR1 := Aside0.mk hr1
 have HC1 := Aside0.mk hc1
 clear hr1 hc1
 have HB := Aside0.mk (Below.refl w.heap.size w)
 have H : ((gudgeonref01_Bits.f k l0).bind fun t661 => ((gudgeonref01_Bits.f k l1).bind fun t664 => ((gudgeonref01_mul.f k t661 t664).bind fun t667 => ((gudgeonref01_Limbs.f k t667).bind fun t670 => (some t670))))) = some r := h
 clear h
 replace H := Option.bind_eq_some_iff.mp H
 obtain ⟨t661, A30, H⟩ := H
 replace H : ((gudgeonref01_Bits.f k l1).bind fun t664 => ((gudgeonref01_mul.f k t661 t664).bind fun t667 => ((gudgeonref01_Limbs.f k t667).bind fun t670 => (some t670)))) = some r := H
 have A3 := Aside0.mk A30
 clear A30
 replace H := Option.bind_eq_some_iff.mp H
 obtain ⟨t664, A40, H⟩ := H
 replace H : ((gudgeonref01_mul.f k t661 t664).bind fun t667 => ((gudgeonref01_Limbs.f k t667).bind fun t670 => (some t670))) = some r := H
 have A4 := Aside0.mk A40
 clear A40
 replace H := Option.bind_eq_some_iff.mp H
 obtain ⟨t667, A50, H⟩ := H
 replace H : ((gudgeonref01_Limbs.f k t667).bind fun t670 => (some t670)) = some r := H
 have A5 := Aside0.mk A50
 clear A50
 replace H := Option.bind_eq_some_iff.mp H
 obtain ⟨t670, A60, H⟩ := H
 replace H : (some t670) = some r := H
 have A6 := Aside0.mk A60
 clear A60
 obtain rfl := Option.some.inj H
 go_enter Tryd.func28, Tryd.ntmps28
 go_wp2_with (first | ((with_reducible refine gate_callee (f := 41) rfl ?_); refine goesL_ (some 6) rfl rfl Tryd.func41 (by kernel_rfl) rfl #[.slice A0 l0.length c0] rfl (by (try simp only [List.map_toArray, List.map_cons, List.map_nil]); first | done | rfl | (simp only [List.length_drop, List.length_take]; rfl)) ?_; (with_reducible refine (gudgeonref01_Bits.calls k _ _ l0 t661 _ ?side1 ?side2 A3.out).mono ?_); (case side1 => repeat (first | exact HR0.out | (with_reducible refine Kd.C_alloc ?_ _) | (with_reducible refine Kd.C_drewN ?_ _) | (with_reducible refine Kd.C_drew ?_))); (case side2 => exact HC0.out); rintro e w7 ⟨v662, rfl, ho0, hb⟩; refine ⟨_, rfl, ?_⟩; have n0_ := Aside0.mk (Kd.R_lower ho0 (below_size (by repeat (first | (with_reducible first | exact HB.out | apply below_alloc | apply pw_below_drewN | apply below_drew1) | exact HB.out)))); have n1_ := Aside0.mk (below_step (by repeat (first | (with_reducible first | exact HB.out | apply below_alloc | apply pw_below_drewN | apply below_drew1) | exact HB.out)) hb); clear HB; have HO663 := n0_; have HB := n1_; clear n0_ n1_; (try clear hb); (try clear hb2); (try clear hk); (try clear hi); (try clear ho0)) | ((with_reducible refine gate_callee (f := 41) rfl ?_); refine goesL_ (some 8) rfl rfl Tryd.func41 (by kernel_rfl) rfl #[.slice A1 l1.length c1] rfl (by (try simp only [List.map_toArray, List.map_cons, List.map_nil]); first | done | rfl | (simp only [List.length_drop, List.length_take]; rfl)) ?_; (with_reducible refine (gudgeonref01_Bits.calls k _ _ l1 t664 _ ?side1 ?side2 A4.out).mono ?_); (case side1 => repeat (first | exact (Kd.C_below HR1.out HB.out) | (with_reducible refine Kd.C_alloc ?_ _) | (with_reducible refine Kd.C_drewN ?_ _) | (with_reducible refine Kd.C_drew ?_))); (case side2 => exact HC1.out); rintro e w8 ⟨v665, rfl, ho0, hb⟩; refine ⟨_, rfl, ?_⟩; have n0_ := Aside0.mk (Kd.R_elder' (by (with_reducible repeat (first | apply Kd.R_alloc | apply Kd.R_drewN | apply Kd.R_drew)); exact HO663.out) (Kd.R_base ho0) hb); have n1_ := Aside0.mk (Kd.R_lower (Kd.R_new' ho0 (Kd.R_lt (by (with_reducible repeat (first | apply Kd.R_alloc | apply Kd.R_drewN | apply Kd.R_drew)); exact HO663.out))) (below_size (by repeat (first | (with_reducible first | exact HB.out | apply below_alloc | apply pw_below_drewN | apply below_drew1) | exact HB.out)))); have n2_ := Aside0.mk (below_step (by repeat (first | (with_reducible first | exact HB.out | apply below_alloc | apply pw_below_drewN | apply below_drew1) | exact HB.out)) hb); clear HO663; clear HB; have HO663 := n0_; have HO666 := n1_; have HB := n2_; clear n0_ n1_ n2_; (try clear hb); (try clear hb2); (try clear hk); (try clear hi); (try clear ho0); obtain ⟨Ao9, co9, eo9⟩ := Kd.R_slice HO663.out; subst eo9; obtain ⟨Ao10, co10, eo10⟩ := Kd.R_slice HO666.out; subst eo10) | ((with_reducible refine gate_callee (f := 45) rfl ?_); refine goesL_ (some 9) rfl rfl Tryd.func45 (by kernel_rfl) rfl #[.slice Ao9 t661.length co9, .slice Ao10 t664.length co10] rfl (by (try simp only [List.map_toArray, List.map_cons, List.map_nil]); first | done | rfl | (simp only [List.length_drop, List.length_take]; rfl)) ?_; (with_reducible refine (gudgeonref01_mul.calls k _ _ t661 _ _ t664 t667 _ ?side1 ?side2 ?side3 ?side4 A5.out).mono ?_); (case side1 => repeat (first | exact (Kd.R_reads' HO663.out).2.2 | (with_reducible refine Kd.C_alloc ?_ _) | (with_reducible refine Kd.C_drewN ?_ _) | (with_reducible refine Kd.C_drew ?_))); (case side2 => exact (Kd.R_reads' HO663.out).2.1); (case side3 => repeat (first | exact (Kd.R_reads' HO666.out).2.2 | (with_reducible refine Kd.C_alloc ?_ _) | (with_reducible refine Kd.C_drewN ?_ _) | (with_reducible refine Kd.C_drew ?_))); (case side4 => exact (Kd.R_reads' HO666.out).2.1); rintro e w11 ⟨v668, rfl, ho0, hb⟩; refine ⟨_, rfl, ?_⟩; have n0_ := Aside0.mk (Kd.R_elder' (by (with_reducible repeat (first | apply Kd.R_alloc | apply Kd.R_drewN | apply Kd.R_drew)); exact HO663.out) (Kd.R_base ho0) hb); have n1_ := Aside0.mk (Kd.R_elder' (by (with_reducible repeat (first | apply Kd.R_alloc | apply Kd.R_drewN | apply Kd.R_drew)); exact HO666.out) (Kd.R_base ho0) hb); have n2_ := Aside0.mk (Kd.R_lower (Kd.R_new' (Kd.R_new' ho0 (Kd.R_lt (by (with_reducible repeat (first | apply Kd.R_alloc | apply Kd.R_drewN | apply Kd.R_drew)); exact HO663.out))) (Kd.R_lt (by (with_reducible repeat (first | apply Kd.R_alloc | apply Kd.R_drewN | apply Kd.R_drew)); exact HO666.out))) (below_size (by repeat (first | (with_reducible first | exact HB.out | apply below_alloc | apply pw_below_drewN | apply below_drew1) | exact HB.out)))); have n3_ := Aside0.mk (below_step (by repeat (first | (with_reducible first | exact HB.out | apply below_alloc | apply pw_below_drewN | apply below_drew1) | exact HB.out)) hb); clear HO663; clear HO666; clear HB; have HO663 := n0_; have HO666 := n1_; have HO669 := n2_; have HB := n3_; clear n0_ n1_ n2_ n3_; (try clear hb); (try clear hb2); (try clear hk); (try clear hi); (try clear ho0); obtain ⟨Ao12, co12, eo12⟩ := Kd.R_slice HO669.out; subst eo12) | ((with_reducible refine gate_callee (f := 43) rfl ?_); refine goesL_ (some 10) rfl rfl Tryd.func43 (by kernel_rfl) rfl #[.slice Ao12 t667.length co12] rfl (by (try simp only [List.map_toArray, List.map_cons, List.map_nil]); first | done | rfl | (simp only [List.length_drop, List.length_take]; rfl)) ?_; (with_reducible refine (gudgeonref01_Limbs.calls k _ _ t667 t670 _ ?side1 ?side2 A6.out).mono ?_); (case side1 => repeat (first | exact (Kd.R_reads' HO669.out).2.2 | (with_reducible refine Kd.C_alloc ?_ _) | (with_reducible refine Kd.C_drewN ?_ _) | (with_reducible refine Kd.C_drew ?_))); (case side2 => exact (Kd.R_reads' HO669.out).2.1); rintro e w13 ⟨v671, rfl, ho0, hb⟩; refine ⟨_, rfl, ?_⟩; have n0_ := Aside0.mk (Kd.R_below (by (with_reducible repeat (first | apply Kd.R_alloc | apply Kd.R_drewN | apply Kd.R_drew)); exact HO663.out) hb); have n1_ := Aside0.mk (Kd.R_below (by (with_reducible repeat (first | apply Kd.R_alloc | apply Kd.R_drewN | apply Kd.R_drew)); exact HO666.out) hb); have n2_ := Aside0.mk (Kd.R_below (by (with_reducible repeat (first | apply Kd.R_alloc | apply Kd.R_drewN | apply Kd.R_drew)); exact HO669.out) hb); have n3_ := Aside0.mk (Kd.R_lower ho0 (below_size (by repeat (first | (with_reducible first | exact HB.out | apply below_alloc | apply pw_below_drewN | apply below_drew1) | exact HB.out)))); have n4_ := Aside0.mk (below_step (by repeat (first | (with_reducible first | exact HB.out | apply below_alloc | apply pw_below_drewN | apply below_drew1) | exact HB.out)) hb); clear HO663; clear HO666; clear HO669; clear HB; have HO663 := n0_; have HO666 := n1_; have HO669 := n2_; have HO672 := n3_; have HB := n4_; clear n0_ n1_ n2_ n3_ n4_; (try clear hb); (try clear hb2); (try clear hk); (try clear hi); (try clear ho0)))
 go_ret
 exact ⟨_, by first | rfl | (simp [errW_none, errW_some] <;> rfl) | (simp [*, errW_none, errW_some] <;> rfl), by (with_reducible repeat (first | apply Kd.R_alloc | apply Kd.R_drewN | apply Kd.R_drew)); exact HO672.out, by repeat (first | (with_reducible first | exact HB.out | apply below_alloc | apply pw_below_drewN | apply below_drew1) | exact HB.out)⟩

/-! ### gudgeonref01_Sub: function 30 -/
def gudgeonref01_Sub.f (k : Nat) (l0 : List Int) (l1 : List Int) : Option (List Int × Int) := (gudgeonref01_Bits.f k l0).bind fun t673 => ((gudgeonref01_Bits.f k l1).bind fun t676 => ((gudgeonref01_cmp.f k t673 t676).bind fun t679 => (if t679 < 0 then (some (([] : List Int), 6)) else ((gudgeonref01_sub.f k t673 t676).bind fun t680 => ((gudgeonref01_Limbs.f k t680).bind fun t683 => (some (t683, 0)))))))
theorem gudgeonref01_Sub.mono : ∀ a0 a1 k, LeO (gudgeonref01_Sub.f k a0 a1) (gudgeonref01_Sub.f (k + 1) a0 a1) := by
 intro a0 a1 k
 unfold gudgeonref01_Sub.f
 repeat' first
   | (with_reducible exact gudgeonref01_Bits.mono _ _)
   | (with_reducible exact gudgeonref01_Limbs.mono _ _)
   | (with_reducible exact gudgeonref01_cmp.mono _ _ _)
   | (with_reducible exact gudgeonref01_sub.mono _ _ _)
   | (with_reducible exact LeO.refl _)
   | (with_reducible exact LeO.none _)
   | (with_reducible refine LeO.ite ?_ ?_)
   | (with_reducible refine LeO.bind ?_ (fun _ => ?_))
   | exact gudgeonref01_Bits.mono _ _
   | exact gudgeonref01_Limbs.mono _ _
   | exact gudgeonref01_cmp.mono _ _ _
   | exact gudgeonref01_sub.mono _ _ _
   | exact LeO.none _
   | refine LeO.ite ?_ ?_
   | refine LeO.bind ?_ (fun _ => ?_)
set_option maxHeartbeats 8000000 in
set_option maxRecDepth 100000 in
theorem gudgeonref01_Sub.calls (k : Nat) (A0 : Option Addr) (c0 : Nat) (l0 : List Int) (A1 : Option Addr) (c1 : Nat) (l1 : List Int) (r1 : List Int) (r2 : Int) (w : World) (hr0 : Kd.C (Kd.int .u32) w A0 l0.length l0) (hc0 : l0.length ≤ c0) (hr1 : Kd.C (Kd.int .u32) w A1 l1.length l1) (hc1 : l1.length ≤ c1) (h : gudgeonref01_Sub.f k l0 l1 = some (r1, r2)) :
  Calls Tryd.prog 30 #[.slice A0 l0.length c0, .slice A1 l1.length c1] w fun e w' => ∃ v0_ : Value, e = .returned (.tuple #[v0_, .int .i64 r2]) ∧ Kd.R (Kd.int .u32) 43 w' w.heap.size (fun _ => True) v0_ r1 ∧ Below w.heap.size w w' := by
 have HR0 := Aside0.mk hr0
 have HC0 := Aside0.mk hc0
 clear hr0 hc0
 have HR1 := Aside0.mk hr1
 have HC1 := Aside0.mk hc1
 clear hr1 hc1
 have HB := Aside0.mk (Below.refl w.heap.size w)
 have H : ((gudgeonref01_Bits.f k l0).bind fun t673 => ((gudgeonref01_Bits.f k l1).bind fun t676 => ((gudgeonref01_cmp.f k t673 t676).bind fun t679 => (if t679 < 0 then (some (([] : List Int), 6)) else ((gudgeonref01_sub.f k t673 t676).bind fun t680 => ((gudgeonref01_Limbs.f k t680).bind fun t683 => (some (t683, 0)))))))) = some (r1, r2) := h
 clear h
 replace H := Option.bind_eq_some_iff.mp H
 obtain ⟨t673, A30, H⟩ := H
 replace H : ((gudgeonref01_Bits.f k l1).bind fun t676 => ((gudgeonref01_cmp.f k t673 t676).bind fun t679 => (if t679 < 0 then (some (([] : List Int), 6)) else ((gudgeonref01_sub.f k t673 t676).bind fun t680 => ((gudgeonref01_Limbs.f k t680).bind fun t683 => (some (t683, 0))))))) = some (r1, r2) := H
 have A3 := Aside0.mk A30
 clear A30
 replace H := Option.bind_eq_some_iff.mp H
 obtain ⟨t676, A40, H⟩ := H
 replace H : ((gudgeonref01_cmp.f k t673 t676).bind fun t679 => (if t679 < 0 then (some (([] : List Int), 6)) else ((gudgeonref01_sub.f k t673 t676).bind fun t680 => ((gudgeonref01_Limbs.f k t680).bind fun t683 => (some (t683, 0)))))) = some (r1, r2) := H
 have A4 := Aside0.mk A40
 clear A40
 replace H := Option.bind_eq_some_iff.mp H
 obtain ⟨t679, A50, H⟩ := H
 replace H : (if t679 < 0 then (some (([] : List Int), 6)) else ((gudgeonref01_sub.f k t673 t676).bind fun t680 => ((gudgeonref01_Limbs.f k t680).bind fun t683 => (some (t683, 0))))) = some (r1, r2) := H
 have A5 := Aside0.mk A50
 clear A50
 by_cases c6 : t679 < 0
 ·rw [if_pos c6] at H
  have c6b0 : decide (t679 < 0) = true := decide_eq_true c6
  clear c6
  simp only [Option.some.injEq, Prod.mk.injEq] at H
  obtain ⟨rfl, rfl⟩ := H
  go_enter Tryd.func30, Tryd.ntmps30
  go_wp2_with (first | ((with_reducible refine gate_callee (f := 41) rfl ?_); refine goesL_ (some 9) rfl rfl Tryd.func41 (by kernel_rfl) rfl #[.slice A0 l0.length c0] rfl (by (try simp only [List.map_toArray, List.map_cons, List.map_nil]); first | done | rfl | (simp only [List.length_drop, List.length_take]; rfl)) ?_; (with_reducible refine (gudgeonref01_Bits.calls k _ _ l0 t673 _ ?side1 ?side2 A3.out).mono ?_); (case side1 => repeat (first | exact HR0.out | (with_reducible refine Kd.C_alloc ?_ _) | (with_reducible refine Kd.C_drewN ?_ _) | (with_reducible refine Kd.C_drew ?_))); (case side2 => exact HC0.out); rintro e w7 ⟨v674, rfl, ho0, hb⟩; refine ⟨_, rfl, ?_⟩; have n0_ := Aside0.mk (Kd.R_lower ho0 (below_size (by repeat (first | (with_reducible first | exact HB.out | apply below_alloc | apply pw_below_drewN | apply below_drew1) | exact HB.out)))); have n1_ := Aside0.mk (below_step (by repeat (first | (with_reducible first | exact HB.out | apply below_alloc | apply pw_below_drewN | apply below_drew1) | exact HB.out)) hb); clear HB; have HO675 := n0_; have HB := n1_; clear n0_ n1_; (try clear hb); (try clear hb2); (try clear hk); (try clear hi); (try clear ho0)) | ((with_reducible refine gate_callee (f := 41) rfl ?_); refine goesL_ (some 11) rfl rfl Tryd.func41 (by kernel_rfl) rfl #[.slice A1 l1.length c1] rfl (by (try simp only [List.map_toArray, List.map_cons, List.map_nil]); first | done | rfl | (simp only [List.length_drop, List.length_take]; rfl)) ?_; (with_reducible refine (gudgeonref01_Bits.calls k _ _ l1 t676 _ ?side1 ?side2 A4.out).mono ?_); (case side1 => repeat (first | exact (Kd.C_below HR1.out HB.out) | (with_reducible refine Kd.C_alloc ?_ _) | (with_reducible refine Kd.C_drewN ?_ _) | (with_reducible refine Kd.C_drew ?_))); (case side2 => exact HC1.out); rintro e w8 ⟨v677, rfl, ho0, hb⟩; refine ⟨_, rfl, ?_⟩; have n0_ := Aside0.mk (Kd.R_elder' (by (with_reducible repeat (first | apply Kd.R_alloc | apply Kd.R_drewN | apply Kd.R_drew)); exact HO675.out) (Kd.R_base ho0) hb); have n1_ := Aside0.mk (Kd.R_lower (Kd.R_new' ho0 (Kd.R_lt (by (with_reducible repeat (first | apply Kd.R_alloc | apply Kd.R_drewN | apply Kd.R_drew)); exact HO675.out))) (below_size (by repeat (first | (with_reducible first | exact HB.out | apply below_alloc | apply pw_below_drewN | apply below_drew1) | exact HB.out)))); have n2_ := Aside0.mk (below_step (by repeat (first | (with_reducible first | exact HB.out | apply below_alloc | apply pw_below_drewN | apply below_drew1) | exact HB.out)) hb); clear HO675; clear HB; have HO675 := n0_; have HO678 := n1_; have HB := n2_; clear n0_ n1_ n2_; (try clear hb); (try clear hb2); (try clear hk); (try clear hi); (try clear ho0); obtain ⟨Ao9, co9, eo9⟩ := Kd.R_slice HO675.out; subst eo9; obtain ⟨Ao10, co10, eo10⟩ := Kd.R_slice HO678.out; subst eo10) | ((with_reducible refine gate_callee (f := 50) rfl ?_); refine goesL_ (some 14) rfl rfl Tryd.func50 (by kernel_rfl) rfl #[.slice Ao9 t673.length co9, .slice Ao10 t676.length co10] rfl (by (try simp only [List.map_toArray, List.map_cons, List.map_nil]); first | done | rfl | (simp only [List.length_drop, List.length_take]; rfl)) ?_; (with_reducible refine (gudgeonref01_cmp.calls k _ _ t673 _ _ t676 t679 _ ?side1 ?side2 ?side3 ?side4 A5.out).mono ?_); (case side1 => repeat (first | exact (Kd.R_reads' HO675.out).2.2 | (with_reducible refine Kd.C_alloc ?_ _) | (with_reducible refine Kd.C_drewN ?_ _) | (with_reducible refine Kd.C_drew ?_))); (case side2 => exact (Kd.R_reads' HO675.out).2.1); (case side3 => repeat (first | exact (Kd.R_reads' HO678.out).2.2 | (with_reducible refine Kd.C_alloc ?_ _) | (with_reducible refine Kd.C_drewN ?_ _) | (with_reducible refine Kd.C_drew ?_))); (case side4 => exact (Kd.R_reads' HO678.out).2.1); rintro e w' ⟨rfl, ⟨nd, rfl⟩⟩; refine ⟨_, rfl, ?_⟩))
  go_ret2
  exact ⟨_, by first | rfl | (simp [errW_none, errW_some] <;> rfl) | (simp [*, errW_none, errW_some] <;> rfl), by first | exact Kd.R_nil _ _ _ _ _ | exact Kd.N_nil _ _ _ _ _ | exact Kd.V_nil _ _ _ _ _ | exact Kd.Q_nil _ _ _ _ _ | exact Kd.S_nil _ _ _ _ _, by repeat (first | (with_reducible first | exact HB.out | apply below_alloc | apply pw_below_drewN | apply below_drew1) | exact HB.out)⟩
 ·rw [if_neg c6] at H
  have c6b0 : decide (t679 < 0) = false := decide_eq_false c6
  clear c6
  replace H := Option.bind_eq_some_iff.mp H
  obtain ⟨t680, A110, H⟩ := H
  replace H : ((gudgeonref01_Limbs.f k t680).bind fun t683 => (some (t683, 0))) = some (r1, r2) := H
  have A11 := Aside0.mk A110
  clear A110
  replace H := Option.bind_eq_some_iff.mp H
  obtain ⟨t683, A120, H⟩ := H
  replace H : (some (t683, 0)) = some (r1, r2) := H
  have A12 := Aside0.mk A120
  clear A120
  simp only [Option.some.injEq, Prod.mk.injEq] at H
  obtain ⟨rfl, rfl⟩ := H
  go_enter Tryd.func30, Tryd.ntmps30
  go_wp2_with (first | ((with_reducible refine gate_callee (f := 41) rfl ?_); refine goesL_ (some 9) rfl rfl Tryd.func41 (by kernel_rfl) rfl #[.slice A0 l0.length c0] rfl (by (try simp only [List.map_toArray, List.map_cons, List.map_nil]); first | done | rfl | (simp only [List.length_drop, List.length_take]; rfl)) ?_; (with_reducible refine (gudgeonref01_Bits.calls k _ _ l0 t673 _ ?side1 ?side2 A3.out).mono ?_); (case side1 => repeat (first | exact HR0.out | (with_reducible refine Kd.C_alloc ?_ _) | (with_reducible refine Kd.C_drewN ?_ _) | (with_reducible refine Kd.C_drew ?_))); (case side2 => exact HC0.out); rintro e w13 ⟨v674, rfl, ho0, hb⟩; refine ⟨_, rfl, ?_⟩; have n0_ := Aside0.mk (Kd.R_lower ho0 (below_size (by repeat (first | (with_reducible first | exact HB.out | apply below_alloc | apply pw_below_drewN | apply below_drew1) | exact HB.out)))); have n1_ := Aside0.mk (below_step (by repeat (first | (with_reducible first | exact HB.out | apply below_alloc | apply pw_below_drewN | apply below_drew1) | exact HB.out)) hb); clear HB; have HO675 := n0_; have HB := n1_; clear n0_ n1_; (try clear hb); (try clear hb2); (try clear hk); (try clear hi); (try clear ho0)) | ((with_reducible refine gate_callee (f := 41) rfl ?_); refine goesL_ (some 11) rfl rfl Tryd.func41 (by kernel_rfl) rfl #[.slice A1 l1.length c1] rfl (by (try simp only [List.map_toArray, List.map_cons, List.map_nil]); first | done | rfl | (simp only [List.length_drop, List.length_take]; rfl)) ?_; (with_reducible refine (gudgeonref01_Bits.calls k _ _ l1 t676 _ ?side1 ?side2 A4.out).mono ?_); (case side1 => repeat (first | exact (Kd.C_below HR1.out HB.out) | (with_reducible refine Kd.C_alloc ?_ _) | (with_reducible refine Kd.C_drewN ?_ _) | (with_reducible refine Kd.C_drew ?_))); (case side2 => exact HC1.out); rintro e w14 ⟨v677, rfl, ho0, hb⟩; refine ⟨_, rfl, ?_⟩; have n0_ := Aside0.mk (Kd.R_elder' (by (with_reducible repeat (first | apply Kd.R_alloc | apply Kd.R_drewN | apply Kd.R_drew)); exact HO675.out) (Kd.R_base ho0) hb); have n1_ := Aside0.mk (Kd.R_lower (Kd.R_new' ho0 (Kd.R_lt (by (with_reducible repeat (first | apply Kd.R_alloc | apply Kd.R_drewN | apply Kd.R_drew)); exact HO675.out))) (below_size (by repeat (first | (with_reducible first | exact HB.out | apply below_alloc | apply pw_below_drewN | apply below_drew1) | exact HB.out)))); have n2_ := Aside0.mk (below_step (by repeat (first | (with_reducible first | exact HB.out | apply below_alloc | apply pw_below_drewN | apply below_drew1) | exact HB.out)) hb); clear HO675; clear HB; have HO675 := n0_; have HO678 := n1_; have HB := n2_; clear n0_ n1_ n2_; (try clear hb); (try clear hb2); (try clear hk); (try clear hi); (try clear ho0); obtain ⟨Ao15, co15, eo15⟩ := Kd.R_slice HO675.out; subst eo15; obtain ⟨Ao16, co16, eo16⟩ := Kd.R_slice HO678.out; subst eo16) | ((with_reducible refine gate_callee (f := 50) rfl ?_); refine goesL_ (some 14) rfl rfl Tryd.func50 (by kernel_rfl) rfl #[.slice Ao15 t673.length co15, .slice Ao16 t676.length co16] rfl (by (try simp only [List.map_toArray, List.map_cons, List.map_nil]); first | done | rfl | (simp only [List.length_drop, List.length_take]; rfl)) ?_; (with_reducible refine (gudgeonref01_cmp.calls k _ _ t673 _ _ t676 t679 _ ?side1 ?side2 ?side3 ?side4 A5.out).mono ?_); (case side1 => repeat (first | exact (Kd.R_reads' HO675.out).2.2 | (with_reducible refine Kd.C_alloc ?_ _) | (with_reducible refine Kd.C_drewN ?_ _) | (with_reducible refine Kd.C_drew ?_))); (case side2 => exact (Kd.R_reads' HO675.out).2.1); (case side3 => repeat (first | exact (Kd.R_reads' HO678.out).2.2 | (with_reducible refine Kd.C_alloc ?_ _) | (with_reducible refine Kd.C_drewN ?_ _) | (with_reducible refine Kd.C_drew ?_))); (case side4 => exact (Kd.R_reads' HO678.out).2.1); rintro e w' ⟨rfl, ⟨nd, rfl⟩⟩; refine ⟨_, rfl, ?_⟩) | ((with_reducible refine gate_callee (f := 51) rfl ?_); refine goesL_ (some 18) rfl rfl Tryd.func51 (by kernel_rfl) rfl #[.slice Ao15 t673.length co15, .slice Ao16 t676.length co16] rfl (by (try simp only [List.map_toArray, List.map_cons, List.map_nil]); first | done | rfl | (simp only [List.length_drop, List.length_take]; rfl)) ?_; (with_reducible refine (gudgeonref01_sub.calls k _ _ t673 _ _ t676 t680 _ ?side1 ?side2 ?side3 ?side4 A11.out).mono ?_); (case side1 => repeat (first | exact (Kd.R_reads' HO675.out).2.2 | (with_reducible refine Kd.C_alloc ?_ _) | (with_reducible refine Kd.C_drewN ?_ _) | (with_reducible refine Kd.C_drew ?_))); (case side2 => exact (Kd.R_reads' HO675.out).2.1); (case side3 => repeat (first | exact (Kd.R_reads' HO678.out).2.2 | (with_reducible refine Kd.C_alloc ?_ _) | (with_reducible refine Kd.C_drewN ?_ _) | (with_reducible refine Kd.C_drew ?_))); (case side4 => exact (Kd.R_reads' HO678.out).2.1); rintro e w17 ⟨v681, rfl, ho0, hb⟩; refine ⟨_, rfl, ?_⟩; have n0_ := Aside0.mk (Kd.R_elder' (by (with_reducible repeat (first | apply Kd.R_alloc | apply Kd.R_drewN | apply Kd.R_drew)); exact HO675.out) (Kd.R_base ho0) hb); have n1_ := Aside0.mk (Kd.R_elder' (by (with_reducible repeat (first | apply Kd.R_alloc | apply Kd.R_drewN | apply Kd.R_drew)); exact HO678.out) (Kd.R_base ho0) hb); have n2_ := Aside0.mk (Kd.R_lower (Kd.R_new' (Kd.R_new' ho0 (Kd.R_lt (by (with_reducible repeat (first | apply Kd.R_alloc | apply Kd.R_drewN | apply Kd.R_drew)); exact HO675.out))) (Kd.R_lt (by (with_reducible repeat (first | apply Kd.R_alloc | apply Kd.R_drewN | apply Kd.R_drew)); exact HO678.out))) (below_size (by repeat (first | (with_reducible first | exact HB.out | apply below_alloc | apply pw_below_drewN | apply below_drew1) | exact HB.out)))); have n3_ := Aside0.mk (below_step (by repeat (first | (with_reducible first | exact HB.out | apply below_alloc | apply pw_below_drewN | apply below_drew1) | exact HB.out)) hb); clear HO675; clear HO678; clear HB; have HO675 := n0_; have HO678 := n1_; have HO682 := n2_; have HB := n3_; clear n0_ n1_ n2_ n3_; (try clear hb); (try clear hb2); (try clear hk); (try clear hi); (try clear ho0); obtain ⟨Ao18, co18, eo18⟩ := Kd.R_slice HO682.out; subst eo18) | ((with_reducible refine gate_callee (f := 43) rfl ?_); refine goesL_ (some 19) rfl rfl Tryd.func43 (by kernel_rfl) rfl #[.slice Ao18 t680.length co18] rfl (by (try simp only [List.map_toArray, List.map_cons, List.map_nil]); first | done | rfl | (simp only [List.length_drop, List.length_take]; rfl)) ?_; (with_reducible refine (gudgeonref01_Limbs.calls k _ _ t680 t683 _ ?side1 ?side2 A12.out).mono ?_); (case side1 => repeat (first | exact (Kd.R_reads' HO682.out).2.2 | (with_reducible refine Kd.C_alloc ?_ _) | (with_reducible refine Kd.C_drewN ?_ _) | (with_reducible refine Kd.C_drew ?_))); (case side2 => exact (Kd.R_reads' HO682.out).2.1); rintro e w19 ⟨v684, rfl, ho0, hb⟩; refine ⟨_, rfl, ?_⟩; have n0_ := Aside0.mk (Kd.R_below (by (with_reducible repeat (first | apply Kd.R_alloc | apply Kd.R_drewN | apply Kd.R_drew)); exact HO675.out) hb); have n1_ := Aside0.mk (Kd.R_below (by (with_reducible repeat (first | apply Kd.R_alloc | apply Kd.R_drewN | apply Kd.R_drew)); exact HO678.out) hb); have n2_ := Aside0.mk (Kd.R_below (by (with_reducible repeat (first | apply Kd.R_alloc | apply Kd.R_drewN | apply Kd.R_drew)); exact HO682.out) hb); have n3_ := Aside0.mk (Kd.R_lower ho0 (below_size (by repeat (first | (with_reducible first | exact HB.out | apply below_alloc | apply pw_below_drewN | apply below_drew1) | exact HB.out)))); have n4_ := Aside0.mk (below_step (by repeat (first | (with_reducible first | exact HB.out | apply below_alloc | apply pw_below_drewN | apply below_drew1) | exact HB.out)) hb); clear HO675; clear HO678; clear HO682; clear HB; have HO675 := n0_; have HO678 := n1_; have HO682 := n2_; have HO685 := n3_; have HB := n4_; clear n0_ n1_ n2_ n3_ n4_; (try clear hb); (try clear hb2); (try clear hk); (try clear hi); (try clear ho0)))
  go_ret2
  exact ⟨_, by first | rfl | (simp [errW_none, errW_some] <;> rfl) | (simp [*, errW_none, errW_some] <;> rfl), by (with_reducible repeat (first | apply Kd.R_alloc | apply Kd.R_drewN | apply Kd.R_drew)); exact HO685.out, by repeat (first | (with_reducible first | exact HB.out | apply below_alloc | apply pw_below_drewN | apply below_drew1) | exact HB.out)⟩

/-! ### gudgeonref01_Cmp: function 31 -/
def gudgeonref01_Cmp.f (k : Nat) (l0 : List Int) (l1 : List Int) : Option (Int) := (gudgeonref01_Bits.f k l0).bind fun t686 => ((gudgeonref01_Bits.f k l1).bind fun t689 => ((gudgeonref01_cmp.f k t686 t689).bind fun t692 => (some t692)))
theorem gudgeonref01_Cmp.mono : ∀ a0 a1 k, LeO (gudgeonref01_Cmp.f k a0 a1) (gudgeonref01_Cmp.f (k + 1) a0 a1) := by
 intro a0 a1 k
 unfold gudgeonref01_Cmp.f
 repeat' first
   | (with_reducible exact gudgeonref01_Bits.mono _ _)
   | (with_reducible exact gudgeonref01_cmp.mono _ _ _)
   | (with_reducible exact LeO.refl _)
   | (with_reducible exact LeO.none _)
   | (with_reducible refine LeO.ite ?_ ?_)
   | (with_reducible refine LeO.bind ?_ (fun _ => ?_))
   | exact gudgeonref01_Bits.mono _ _
   | exact gudgeonref01_cmp.mono _ _ _
   | exact LeO.none _
   | refine LeO.ite ?_ ?_
   | refine LeO.bind ?_ (fun _ => ?_)
set_option maxHeartbeats 8000000 in
set_option maxRecDepth 100000 in
theorem gudgeonref01_Cmp.calls (k : Nat) (A0 : Option Addr) (c0 : Nat) (l0 : List Int) (A1 : Option Addr) (c1 : Nat) (l1 : List Int) (r : Int) (w : World) (hr0 : Kd.C (Kd.int .u32) w A0 l0.length l0) (hc0 : l0.length ≤ c0) (hr1 : Kd.C (Kd.int .u32) w A1 l1.length l1) (hc1 : l1.length ≤ c1) (h : gudgeonref01_Cmp.f k l0 l1 = some r) :
  Calls Tryd.prog 31 #[.slice A0 l0.length c0, .slice A1 l1.length c1] w fun e w' => e = .returned (.int .i64 r) ∧ Below w.heap.size w w' := by
 have HR0 := Aside0.mk hr0
 have HC0 := Aside0.mk hc0
 clear hr0 hc0
 have HR1 := Aside0.mk hr1
 have HC1 := Aside0.mk hc1
 clear hr1 hc1
 have HB := Aside0.mk (Below.refl w.heap.size w)
 have H : ((gudgeonref01_Bits.f k l0).bind fun t686 => ((gudgeonref01_Bits.f k l1).bind fun t689 => ((gudgeonref01_cmp.f k t686 t689).bind fun t692 => (some t692)))) = some r := h
 clear h
 replace H := Option.bind_eq_some_iff.mp H
 obtain ⟨t686, A30, H⟩ := H
 replace H : ((gudgeonref01_Bits.f k l1).bind fun t689 => ((gudgeonref01_cmp.f k t686 t689).bind fun t692 => (some t692))) = some r := H
 have A3 := Aside0.mk A30
 clear A30
 replace H := Option.bind_eq_some_iff.mp H
 obtain ⟨t689, A40, H⟩ := H
 replace H : ((gudgeonref01_cmp.f k t686 t689).bind fun t692 => (some t692)) = some r := H
 have A4 := Aside0.mk A40
 clear A40
 replace H := Option.bind_eq_some_iff.mp H
 obtain ⟨t692, A50, H⟩ := H
 replace H : (some t692) = some r := H
 have A5 := Aside0.mk A50
 clear A50
 obtain rfl := Option.some.inj H
 go_enter Tryd.func31, Tryd.ntmps31
 go_wp2_with (first | ((with_reducible refine gate_callee (f := 41) rfl ?_); refine goesL_ (some 6) rfl rfl Tryd.func41 (by kernel_rfl) rfl #[.slice A0 l0.length c0] rfl (by (try simp only [List.map_toArray, List.map_cons, List.map_nil]); first | done | rfl | (simp only [List.length_drop, List.length_take]; rfl)) ?_; (with_reducible refine (gudgeonref01_Bits.calls k _ _ l0 t686 _ ?side1 ?side2 A3.out).mono ?_); (case side1 => repeat (first | exact HR0.out | (with_reducible refine Kd.C_alloc ?_ _) | (with_reducible refine Kd.C_drewN ?_ _) | (with_reducible refine Kd.C_drew ?_))); (case side2 => exact HC0.out); rintro e w6 ⟨v687, rfl, ho0, hb⟩; refine ⟨_, rfl, ?_⟩; have n0_ := Aside0.mk (Kd.R_lower ho0 (below_size (by repeat (first | (with_reducible first | exact HB.out | apply below_alloc | apply pw_below_drewN | apply below_drew1) | exact HB.out)))); have n1_ := Aside0.mk (below_step (by repeat (first | (with_reducible first | exact HB.out | apply below_alloc | apply pw_below_drewN | apply below_drew1) | exact HB.out)) hb); clear HB; have HO688 := n0_; have HB := n1_; clear n0_ n1_; (try clear hb); (try clear hb2); (try clear hk); (try clear hi); (try clear ho0)) | ((with_reducible refine gate_callee (f := 41) rfl ?_); refine goesL_ (some 8) rfl rfl Tryd.func41 (by kernel_rfl) rfl #[.slice A1 l1.length c1] rfl (by (try simp only [List.map_toArray, List.map_cons, List.map_nil]); first | done | rfl | (simp only [List.length_drop, List.length_take]; rfl)) ?_; (with_reducible refine (gudgeonref01_Bits.calls k _ _ l1 t689 _ ?side1 ?side2 A4.out).mono ?_); (case side1 => repeat (first | exact (Kd.C_below HR1.out HB.out) | (with_reducible refine Kd.C_alloc ?_ _) | (with_reducible refine Kd.C_drewN ?_ _) | (with_reducible refine Kd.C_drew ?_))); (case side2 => exact HC1.out); rintro e w7 ⟨v690, rfl, ho0, hb⟩; refine ⟨_, rfl, ?_⟩; have n0_ := Aside0.mk (Kd.R_elder' (by (with_reducible repeat (first | apply Kd.R_alloc | apply Kd.R_drewN | apply Kd.R_drew)); exact HO688.out) (Kd.R_base ho0) hb); have n1_ := Aside0.mk (Kd.R_lower (Kd.R_new' ho0 (Kd.R_lt (by (with_reducible repeat (first | apply Kd.R_alloc | apply Kd.R_drewN | apply Kd.R_drew)); exact HO688.out))) (below_size (by repeat (first | (with_reducible first | exact HB.out | apply below_alloc | apply pw_below_drewN | apply below_drew1) | exact HB.out)))); have n2_ := Aside0.mk (below_step (by repeat (first | (with_reducible first | exact HB.out | apply below_alloc | apply pw_below_drewN | apply below_drew1) | exact HB.out)) hb); clear HO688; clear HB; have HO688 := n0_; have HO691 := n1_; have HB := n2_; clear n0_ n1_ n2_; (try clear hb); (try clear hb2); (try clear hk); (try clear hi); (try clear ho0); obtain ⟨Ao8, co8, eo8⟩ := Kd.R_slice HO688.out; subst eo8; obtain ⟨Ao9, co9, eo9⟩ := Kd.R_slice HO691.out; subst eo9) | ((with_reducible refine gate_callee (f := 50) rfl ?_); refine goesL_ (some 9) rfl rfl Tryd.func50 (by kernel_rfl) rfl #[.slice Ao8 t686.length co8, .slice Ao9 t689.length co9] rfl (by (try simp only [List.map_toArray, List.map_cons, List.map_nil]); first | done | rfl | (simp only [List.length_drop, List.length_take]; rfl)) ?_; (with_reducible refine (gudgeonref01_cmp.calls k _ _ t686 _ _ t689 t692 _ ?side1 ?side2 ?side3 ?side4 A5.out).mono ?_); (case side1 => repeat (first | exact (Kd.R_reads' HO688.out).2.2 | (with_reducible refine Kd.C_alloc ?_ _) | (with_reducible refine Kd.C_drewN ?_ _) | (with_reducible refine Kd.C_drew ?_))); (case side2 => exact (Kd.R_reads' HO688.out).2.1); (case side3 => repeat (first | exact (Kd.R_reads' HO691.out).2.2 | (with_reducible refine Kd.C_alloc ?_ _) | (with_reducible refine Kd.C_drewN ?_ _) | (with_reducible refine Kd.C_drew ?_))); (case side4 => exact (Kd.R_reads' HO691.out).2.1); rintro e w' ⟨rfl, ⟨nd, rfl⟩⟩; refine ⟨_, rfl, ?_⟩))
 go_ret
 exact ⟨by first | rfl | (simp [errW_none, errW_some] <;> rfl) | (simp [*, errW_none, errW_some] <;> rfl), by repeat (first | (with_reducible first | exact HB.out | apply below_alloc | apply pw_below_drewN | apply below_drew1) | exact HB.out)⟩

end Go.Proofs.YtlfpnohpcemkgaaDoor.PA
/- The reference's differences, products, and numbers by limbs again; its sums of limbs. -/
namespace Go.Proofs.YtlfpnohpcemkgaaDoor.V
set_option linter.unusedVariables false
set_option linter.unusedSimpArgs false
open Go.RowKit Go.Proofs.YtlfpnohpcemkgaaDoor.PA Go.Proofs.YtlfpnohpcemkgaaDoor.H Go.Proofs.YtlfpnohpcemkgaaDoorW.PrintWords Go.Proofs.YtlfpnohpcemkgaaDoorW.PrintLast Go.Proofs.YtlfpnohpcemkgaaDoorW.PrintMore

/-! ### differences -/
theorem step_bsub {V P c A B x y q r : Int} (h : V - P * c = A - B) (e : r - 2 * q = x - y - c) : V + P * r - (2 * P) * q = A + P * x - (B + P * y) := by grind
theorem bsub_j1 (a b out : List Bool) (c : Bool) (i : Nat) (x : Bool) (n : Int) (hn : n = b2i x) (ho : out.length ≤ 2000000000) (hi : i ≤ 2000000000) (r : List Bool)
    (h : Ev (fun k => gudgeonref01_sub.l0 k a b (out ++ [decide ((b2i x - b2i (b.getD i false) - b2i c) % 2 = 1)]) (decide (b2i x - b2i (b.getD i false) - b2i c < 0)) ((i + 1 : Nat) : Int)) r) : Ev (fun k => gudgeonref01_sub.j1 k a b out c (i : Int) n) r := by
  subst hn
  refine Ev.step (fun k => ?_) h
  simp only [gudgeonref01_sub.j1]
  rw [at_ev, Option.bind_some]
  have hlim : out.length < 140737488355328 := by omega
  cases b.getD i false <;> cases x <;> cases c <;> simp only [b2i, if_true, Bool.false_eq_true, if_false] <;> rw [w64 (x := (i : Int) + 1) (by omega) (by omega)] <;> simp [wm1, wm2, wm0, w01, hlim]
theorem bsub_l0 (a b : List Bool) (ha : LB a) (hb : LB b) (hab : bval b ≤ bval a) (d : Nat) : ∀ (i : Nat) (out : List Bool) (c : Bool), i + d = a.length → out.length = i → bval out - p2 i * b2i c = bval (a.take i) - bval (b.take i) →
    Ev (fun k => gudgeonref01_sub.l0 k a b out c (i : Int)) (bits (bval a - bval b)) := by
  unfold LB at ha hb
  induction d with
  | zero =>
    intro i out c hi ho hv
    obtain rfl : i = a.length := by omega
    rw [List.take_of_length_le (Nat.le_refl _)] at hv
    have hbt : bval (b.take a.length) = bval b := by
      by_cases hl : b.length ≤ a.length
      · rw [List.take_of_length_le hl]
      · have e := bval_take_drop b a.length (by omega)
        have h1 := bval_lt a
        have h2 := bval_nonneg (b.take a.length)
        have h3 := bval_nonneg (b.drop a.length)
        have h4 := p2_pos a.length
        by_cases hz : bval (b.drop a.length) = 0
        · rw [hz] at e; omega
        · have : p2 a.length * 1 ≤ p2 a.length * bval (b.drop a.length) := Int.mul_le_mul_of_nonneg_left (by omega) (by omega)
          omega
    rw [hbt] at hv
    have h1 := bval_lt out
    rw [ho] at h1
    have hc : c = false := by
      cases c
      · rfl
      · simp only [b2i, if_true] at hv; omega
    subst hc
    simp only [b2i, Bool.false_eq_true, if_false, Int.mul_zero, Int.sub_zero] at hv
    have ht := btrim_ev out (by omega)
    rw [hv] at ht
    refine Ev.step (fun k => ?_) (Ev.bind (f := fun _ t => some t) ht (Ev.now _))
    simp only [gudgeonref01_sub.l0]
    rw [if_neg (by omega)]
  | succ d ih =>
    intro i out c hi ho hv
    have hia : i < a.length := by omega
    have hnext := ih (i + 1) (out ++ [decide ((b2i (a.getD i false) - b2i (b.getD i false) - b2i c) % 2 = 1)]) (decide (b2i (a.getD i false) - b2i (b.getD i false) - b2i c < 0)) (by omega) (by simp [ho]) (by
      rw [bval_snoc, ho, p2_succ, bval_take_getD a, bval_take_getD b]
      apply step_bsub hv
      cases a.getD i false <;> cases b.getD i false <;> cases c <;> rfl)
    refine Ev.step (f := fun k => gudgeonref01_sub.j1 k a b out c (i : Int) (b2i (a.getD i false))) (fun k => ?_) (bsub_j1 a b out c i _ _ rfl (by omega) (by omega) _ hnext)
    simp only [gudgeonref01_sub.l0]
    rw [if_pos (by omega), if_pos (by omega), rdOf_D]
    cases a.getD i false
    · rw [if_neg (by decide)]; rfl
    · rw [if_pos rfl]; rfl
theorem bsub_ev (a b : List Bool) (ha : LB a) (hb : LB b) (hab : bval b ≤ bval a) : Ev (fun k => gudgeonref01_sub.f k a b) (bits (bval a - bval b)) :=
  Ev.congr (fun k => rfl) (bsub_l0 a b ha hb hab a.length 0 [] false (by omega) rfl (by simp [bval, b2i]))
/-! ### products -/
theorem bmul_bound {x y : Int} {m n : Nat} (h0 : 0 ≤ x) (h1 : x < p2 m) (g0 : 0 ≤ y) (g1 : y < p2 n) : x * y < p2 (m + n) := by
  rw [p2_add]
  have a1 : x * y ≤ x * p2 n := Int.mul_le_mul_of_nonneg_left (by omega) h0
  have a2 : x * p2 n < p2 m * p2 n := Int.mul_lt_mul_of_pos_right h1 (p2_pos n)
  omega
theorem bmul_l0 (a b : List Bool) (ha : a.length ≤ 400000000) (hb : b.length ≤ 400000000) (d : Nat) : ∀ (out : List Bool), d ≤ a.length → out.length ≤ (a.length - d) + b.length → bval out = bval (a.drop d) * bval b →
    Ev (fun k => gudgeonref01_mul.l0 k a b out ((d : Int) - 1)) (bits (bval a * bval b)) := by
  induction d with
  | zero =>
    intro out hd ho hv
    rw [List.drop_zero] at hv
    have ht := btrim_ev out (by omega)
    rw [hv] at ht
    refine Ev.step (fun k => ?_) (Ev.bind (f := fun _ t => some t) ht (Ev.now _))
    simp only [gudgeonref01_mul.l0]
    rw [if_neg (by omega)]
  | succ d ih =>
    intro out hd ho hv
    have hda : d < a.length := by omega
    have e0 : ((d + 1 : Nat) : Int) - 1 = (d : Int) := by omega
    have hdrop := bval_drop_getD a d
    have hv2 : bval (false :: out) = 2 * bval out := by simp [bval, b2i]
    rw [e0]
    cases hx : a.getD d false with
    | true =>
      rw [hx] at hdrop
      simp only [b2i, if_true] at hdrop
      have hadd := badd_ev (false :: out) b (by unfold LB; simp; omega) (by unfold LB; omega)
      have e1 : bval (false :: out) + bval b = bval (a.drop d) * bval b := by rw [hv2, hv, hdrop]; grind
      rw [e1] at hadd
      have hb1 := bmul_bound (bval_nonneg (a.drop d)) (bval_lt (a.drop d)) (bval_nonneg b) (bval_lt b)
      have h0 := Int.mul_nonneg (bval_nonneg (a.drop d)) (bval_nonneg b)
      have hl := bits_length_le h0 hb1
      rw [List.length_drop] at hl
      refine Ev.step (fun k => ?_) (Ev.bind (f := fun k t => gudgeonref01_mul.l0 k a b t ((d : Int) - 1)) hadd (ih _ (by omega) (by omega) (bval_bits h0)))
      simp only [gudgeonref01_mul.l0]
      rw [if_pos (by omega), Option.bind_some, if_pos (by simp; omega), Option.bind_some, if_pos (by omega), if_pos (by omega), rdOf_D, hx, if_pos rfl, w64 (by omega) (by omega)]
      rfl
    | false =>
      rw [hx] at hdrop
      simp only [b2i, Bool.false_eq_true, if_false, Int.zero_add] at hdrop
      refine Ev.step (fun k => ?_) (ih (false :: out) (by omega) (by simp; omega) (by rw [hv2, hv, hdrop]; grind))
      simp only [gudgeonref01_mul.l0]
      rw [if_pos (by omega), Option.bind_some, if_pos (by simp; omega), Option.bind_some, if_pos (by omega), if_pos (by omega), rdOf_D, hx, if_neg (by decide), w64 (by omega) (by omega)]
      rfl
theorem bmul_ev (a b : List Bool) (ha : a.length ≤ 400000000) (hb : b.length ≤ 400000000) : Ev (fun k => gudgeonref01_mul.f k a b) (bits (bval a * bval b)) := by
  refine Ev.congr (fun k => ?_) (bmul_l0 a b ha hb a.length [] (Nat.le_refl _) (by simp) (by rw [List.drop_eq_nil_of_le (Nat.le_refl _)]; simp [bval]))
  unfold gudgeonref01_mul.f
  rw [w64 (by omega) (by omega)]
/-! ### limbs -/
theorem lim_inj (a : List Int) : ∀ b, Lim a → Lim b → a.length = b.length → val a = val b → a = b := by
  induction a with
  | nil => intro b _ _ hl _; exact (List.eq_nil_of_length_eq_zero (by simpa using hl.symm)).symm
  | cons x a ih =>
    intro b ha hb hl hv
    cases b with
    | nil => simp at hl
    | cons y b =>
      have hx := ha.head
      have hy := hb.head
      simp only [val] at hv
      have e1 : x = y := by omega
      have e2 : val a = val b := by omega
      rw [e1, ih b ha.tail hb.tail (by simpa using hl) e2]
theorem getD_win (l : List Bool) (i j : Nat) (hj : j < 32) : ((l.drop i).take 32).getD j false = l.getD (i + j) false := by
  simp [List.getD_eq_getElem?_getD, List.getElem?_take, hj]
theorem Limbs_l1 (l : List Bool) (hl : l.length ≤ 1000000000) (m : Nat) (hm : m ≤ 100000000) (out : List Int) (ho : out.length ≤ 100000000) (r : List Int) (h : Ev (fun k => gudgeonref01_Limbs.l0 k l (out ++ [bval ((l.drop (32 * m)).take 32)]) ((32 * (m + 1) : Nat) : Int)) r) (j : Nat) (hj : j ≤ 32) :
    Ev (fun k => gudgeonref01_Limbs.l1 k l out ((32 * m : Nat) : Int) (bval (((l.drop (32 * m)).take 32).drop j)) (((32 * m + j : Nat) : Int) - 1)) r := by
  induction j with
  | zero =>
    rw [List.drop_zero]
    refine Ev.step (fun k => ?_) h
    simp only [gudgeonref01_Limbs.l1]
    rw [if_neg (by omega), if_pos (by omega), w64 (by omega) (by omega), show ((32 * m : Nat) : Int) + 32 = ((32 * (m + 1) : Nat) : Int) by omega]
  | succ j ih =>
    have hd := bval_drop_getD ((l.drop (32 * m)).take 32) j
    rw [getD_win l (32 * m) j (by omega)] at hd
    have h0 := bval_nonneg (((l.drop (32 * m)).take 32).drop (j + 1))
    have h1 : bval (((l.drop (32 * m)).take 32).drop (j + 1)) < p2 31 := by
      have := bval_lt (((l.drop (32 * m)).take 32).drop (j + 1))
      have h2 := p2_le (show (((l.drop (32 * m)).take 32).drop (j + 1)).length ≤ 31 by rw [List.length_drop, List.length_take]; omega)
      omega
    have e31 : p2 31 = 2147483648 := rfl
    have e0 : ((32 * m + (j + 1) : Nat) : Int) - 1 = ((32 * m + j : Nat) : Int) := by omega
    rw [e0]
    refine Ev.step (fun k => ?_) (ih (by omega))
    simp only [gudgeonref01_Limbs.l1]
    by_cases hlt : 32 * m + j < l.length
    · rw [if_pos (by omega), if_pos (by omega), if_pos (by omega), rdOf_D]
      cases hb : l.getD (32 * m + j) false with
      | true =>
        rw [hb] at hd
        simp only [b2i, if_true] at hd
        rw [if_pos rfl, w64 (by omega) (by omega), hd]
        congr 1
        omega
      | false =>
        rw [hb] at hd
        simp only [b2i, Bool.false_eq_true, if_false] at hd
        rw [if_neg (by decide), w64 (by omega) (by omega), hd]
        congr 1
        omega
    · have hb : l.getD (32 * m + j) false = false := by rw [List.getD_eq_getElem?_getD, List.getElem?_eq_none (by omega)]; rfl
      rw [hb] at hd
      simp only [b2i, Bool.false_eq_true, if_false] at hd
      rw [if_pos (by omega), if_neg (by omega), w64 (by omega) (by omega), hd]
      congr 1
      omega
theorem Limbs_l0 (x : Int) (h0 : 0 ≤ x) (hl : (bits x).length ≤ 1000000000) (d : Nat) : ∀ (m : Nat) (out : List Int), d + 32 * m = (bits x).length + 32 ∨ ((bits x).length ≤ 32 * m ∧ 32 * m < (bits x).length + 32) → d ≤ (bits x).length + 32 → 32 * m < (bits x).length + 32 → out.length = m → Lim out → val out = bval ((bits x).take (32 * m)) → Ev (fun k => gudgeonref01_Limbs.l0 k (bits x) out ((32 * m : Nat) : Int)) (dig x) := by
  induction d using Nat.strongRecOn with
  | _ d ih =>
    intro m out hd hd2 hm ho hL hv
    by_cases hend : (bits x).length ≤ 32 * m
    · rw [List.take_of_length_le hend, bval_bits h0] at hv
      have e : out = dig x := by
        refine lim_inj _ _ hL (dig_lim _) ?_ (by rw [hv, val_dig h0])
        have hlt : x < pw m := by
          rw [pw_p2]
          exact lt_of_bits_length h0 hend
        have h1 := dig_length_le h0 hlt
        by_cases h2 : m ≤ (dig x).length
        · omega
        · have h3 : x < pw (m - 1) := lt_of_dig_length h0 (by omega)
          rw [pw_p2] at h3
          have h4 := bits_length_le h0 h3
          omega
      refine Ev.step (f := fun _ => some _) (fun k => ?_) (Ev.now _)
      simp only [gudgeonref01_Limbs.l0]
      rw [if_neg (by omega), e]
    · have hwl : ((bits x).take (32 * m)).length = 32 * m := by rw [List.length_take]; omega
      have hW : bval (((bits x).drop (32 * m)).take 32) < 4294967296 := by
        have h1 := bval_lt (((bits x).drop (32 * m)).take 32)
        have h2 := p2_le (show (((bits x).drop (32 * m)).take 32).length ≤ 32 by rw [List.length_take]; omega)
        have e : p2 32 = 4294967296 := rfl
        omega
      have hW0 := bval_nonneg (((bits x).drop (32 * m)).take 32)
      have hnext := ih (d - 32) (by omega) (m + 1) (out ++ [bval (((bits x).drop (32 * m)).take 32)]) (by omega) (by omega) (by omega) (by simp [ho]) (hL.append (Lim.cons hW0 hW Lim.nil)) (by
        rw [val_append, ho, hv, show val [bval (((bits x).drop (32 * m)).take 32)] = bval (((bits x).drop (32 * m)).take 32) by simp [val], show 32 * (m + 1) = 32 * m + 32 by omega, List.take_add, bval_append, hwl, pw_p2])
      have h1 := Limbs_l1 (bits x) hl m (by omega) out (by omega) _ hnext 32 (Nat.le_refl _)
      rw [List.drop_eq_nil_of_le (by rw [List.length_take]; omega)] at h1
      refine Ev.step (fun k => ?_) h1
      simp only [gudgeonref01_Limbs.l0]
      rw [if_pos (by omega), w64 (by omega) (by omega), show ((32 * m : Nat) : Int) + 31 = ((32 * m + 32 : Nat) : Int) - 1 by omega]
      rfl
theorem bits_bits (x : Int) (h0 : 0 ≤ x) : bits (bval (bits x)) = bits x := by rw [bval_bits h0]
theorem Limbs_ev (x : Int) (h0 : 0 ≤ x) (hl : (bits x).length ≤ 1000000000) : Ev (fun k => gudgeonref01_Limbs.f k (bits x)) (dig x) := by
  have ht := btrim_ev (bits x) (by omega)
  rw [bits_bits x h0] at ht
  have := Limbs_l0 x h0 hl ((bits x).length + 32) 0 [] (by omega) (by omega) (by omega) rfl Lim.nil (by simp [val, bval])
  exact Ev.congr (fun k => rfl) (Ev.bind ht this)
/-! ### the reference's functions of limbs -/
def SZ (l : List Int) : Prop := l.length ≤ 10000
theorem bits_len_of (l : List Int) (hL : Lim l) (hs : SZ l) : (bits (val l)).length ≤ 320000 := by
  have h := val_lt hL
  rw [pw_p2] at h
  have := bits_length_le (val_nonneg hL) h
  unfold SZ at hs
  omega
theorem refNorm_ev (l : List Int) (hL : Lim l) (hs : SZ l) : Ev (fun k => gudgeonref01_Norm.f k l) (dig (val l)) := by
  have h1 := bits_len_of l hL hs
  have hs' := hs
  unfold SZ at hs'
  exact Ev.congr (fun k => rfl) (Ev.bind (Bits_ev l hL (by omega)) (Ev.bind (f := fun _ t => some t) (Limbs_ev _ (val_nonneg hL) (by omega)) (Ev.now _)))
theorem refAdd_ev (a b : List Int) (ha : Lim a) (hb : Lim b) (sa : SZ a) (sb : SZ b) : Ev (fun k => gudgeonref01_Add.f k a b) (dig (val a + val b)) := by
  have h1 := bits_len_of a ha sa
  have h2 := bits_len_of b hb sb
  have va := val_nonneg ha
  have vb := val_nonneg hb
  have sa' := sa
  have sb' := sb
  unfold SZ at sa' sb'
  have hadd := badd_ev (bits (val a)) (bits (val b)) (by unfold LB; omega) (by unfold LB; omega)
  rw [bval_bits va, bval_bits vb] at hadd
  have hl : (bits (val a + val b)).length ≤ 320001 := by
    have e1 := lt_of_bits_length va h1
    have e2 := lt_of_bits_length vb h2
    exact bits_length_le (by omega) (by rw [p2_succ]; omega)
  exact Ev.congr (fun k => rfl) (Ev.bind (Bits_ev a ha (by omega)) (Ev.bind (Bits_ev b hb (by omega)) (Ev.bind hadd (Ev.bind (f := fun _ t => some t) (Limbs_ev _ (by omega) (by omega)) (Ev.now _)))))
theorem refMul_ev (a b : List Int) (ha : Lim a) (hb : Lim b) (sa : SZ a) (sb : SZ b) : Ev (fun k => gudgeonref01_Mul.f k a b) (dig (val a * val b)) := by
  have h1 := bits_len_of a ha sa
  have h2 := bits_len_of b hb sb
  have va := val_nonneg ha
  have vb := val_nonneg hb
  have sa' := sa
  have sb' := sb
  unfold SZ at sa' sb'
  have hmul := bmul_ev (bits (val a)) (bits (val b)) (by omega) (by omega)
  rw [bval_bits va, bval_bits vb] at hmul
  have h0 := Int.mul_nonneg va vb
  have hl := bits_length_le h0 (bmul_bound va (lt_of_bits_length va h1) vb (lt_of_bits_length vb h2))
  exact Ev.congr (fun k => rfl) (Ev.bind (Bits_ev a ha (by omega)) (Ev.bind (Bits_ev b hb (by omega)) (Ev.bind hmul (Ev.bind (f := fun _ t => some t) (Limbs_ev _ h0 (by omega)) (Ev.now _)))))
theorem refCmp_ev (a b : List Int) (ha : Lim a) (hb : Lim b) (sa : SZ a) (sb : SZ b) : Ev (fun k => gudgeonref01_Cmp.f k a b) (cmpI (val a) (val b)) := by
  have h1 := bits_len_of a ha sa
  have h2 := bits_len_of b hb sb
  have va := val_nonneg ha
  have vb := val_nonneg hb
  have sa' := sa
  have sb' := sb
  unfold SZ at sa' sb'
  have hc := bcmp_ev (bits (val a)) (bits (val b)) (by unfold LB; omega) (by unfold LB; omega)
  rw [bval_bits va, bval_bits vb] at hc
  exact Ev.congr (fun k => rfl) (Ev.bind (Bits_ev a ha (by omega)) (Ev.bind (Bits_ev b hb (by omega)) (Ev.bind (f := fun _ t => some t) hc (Ev.now _))))
theorem refSub_ev (a b : List Int) (ha : Lim a) (hb : Lim b) (sa : SZ a) (sb : SZ b) : Ev (fun k => gudgeonref01_Sub.f k a b) (if val a < val b then ([], 6) else (dig (val a - val b), 0)) := by
  have h1 := bits_len_of a ha sa
  have h2 := bits_len_of b hb sb
  have va := val_nonneg ha
  have vb := val_nonneg hb
  have sa' := sa
  have sb' := sb
  unfold SZ at sa' sb'
  have hc := bcmp_ev (bits (val a)) (bits (val b)) (by unfold LB; omega) (by unfold LB; omega)
  rw [bval_bits va, bval_bits vb] at hc
  refine Ev.congr (fun k => rfl) (Ev.bind (Bits_ev a ha (by omega)) (Ev.bind (Bits_ev b hb (by omega)) (Ev.bind hc ?_)))
  by_cases hlt : val a < val b
  · refine Ev.congr (f := fun _ => some _) (fun k => ?_) (Ev.now _)
    unfold cmpI
    rw [if_pos hlt, if_pos hlt, if_pos (by decide)]
  · have hs := bsub_ev (bits (val a)) (bits (val b)) (by unfold LB; omega) (by unfold LB; omega) (by rw [bval_bits va, bval_bits vb]; omega)
    rw [bval_bits va, bval_bits vb] at hs
    have hl : (bits (val a - val b)).length ≤ 320000 := bits_length_le (by omega) (by have := lt_of_bits_length va h1; omega)
    rw [if_neg hlt]
    refine Ev.congr (fun k => by
      unfold cmpI
      rw [if_neg hlt, if_neg (by split <;> decide)]) (Ev.bind hs (Ev.bind (f := fun _ t => some (t, (0 : Int))) (Limbs_ev (val a - val b) (by omega) (by omega)) (Ev.now _)))
end Go.Proofs.YtlfpnohpcemkgaaDoor.V
/- nat.Text and nat.Parse: the digits of a number, and back. -/
namespace Go.Proofs.YtlfpnohpcemkgaaDoor.V
set_option linter.unusedVariables false
set_option linter.unusedSimpArgs false
open Go.RowKit Go.Proofs.YtlfpnohpcemkgaaDoor.PA Go.Proofs.YtlfpnohpcemkgaaDoor.H Go.Proofs.YtlfpnohpcemkgaaDoorW.PrintWords Go.Proofs.YtlfpnohpcemkgaaDoorW.PrintLast Go.Proofs.YtlfpnohpcemkgaaDoorW.PrintMore

theorem ba_ext {a b : ByteArray} (h : a.data.toList = b.data.toList) : a = b := by
  obtain ⟨⟨a⟩⟩ := a; obtain ⟨⟨b⟩⟩ := b
  simp only at h; rw [h]
theorem bt_nat (s : ByteArray) (i : Nat) (h : i < s.data.toList.length) : bt s (i : Int) = ((s.data.toList[i]).toNat : Int) := by
  have h' : i < s.size := by rw [Lib.size_eq]; exact h
  unfold bt
  rw [dif_pos (by simpa using h')]
  rfl
theorem size_len (s : ByteArray) : s.size = s.data.toList.length := by rw [Lib.size_eq]
theorem toList_nil (s : ByteArray) : (s.toList = ([] : List UInt8)) ↔ s.data.toList = [] := by rw [Lib.toList_data]

/-- A number's decimal digits, the highest one first; none for nought. -/
def decL (n : Nat) : List UInt8 := if h : n = 0 then [] else decL (n / 10) ++ [UInt8.ofNat (48 + n % 10)]
termination_by n
decreasing_by omega
/-- A number's text. -/
def textL (n : Nat) : List UInt8 := if n = 0 then [48] else decL n
theorem decL_zero : decL 0 = [] := by rw [decL]; rfl
theorem decL_pos {n : Nat} (h : n ≠ 0) : decL n = decL (n / 10) ++ [UInt8.ofNat (48 + n % 10)] := by rw [decL, dif_neg h]
theorem decL_ne {n : Nat} (h : n ≠ 0) : decL n ≠ [] := by rw [decL_pos h]; simp
def zero48 (c : UInt8) : Bool := c == 48
theorem ofNat48 (d : Nat) (hd : d < 10) : (UInt8.ofNat (48 + d)).toNat = 48 + d := by
  simp [UInt8.toNat_ofNat']
  omega
theorem zero48_digit (d : Nat) (hd : d < 10) : zero48 (UInt8.ofNat (48 + d)) = decide (d = 0) := by
  unfold zero48
  rw [Bool.eq_iff_iff]
  simp only [beq_iff_eq, decide_eq_true_eq]
  rw [← UInt8.toNat_inj, ofNat48 d hd]
  simp
theorem drop_append_ne {p : UInt8 → Bool} {a b : List UInt8} (h : a.dropWhile p ≠ []) : (a ++ b).dropWhile p = a.dropWhile p ++ b := by
  rw [List.dropWhile_append]
  cases hd : a.dropWhile p with
  | nil => exact absurd hd h
  | cons _ _ => simp
theorem drop_append_nil {p : UInt8 → Bool} {a b : List UInt8} (h : a.dropWhile p = []) : (a ++ b).dropWhile p = b.dropWhile p := by
  rw [List.dropWhile_append, h]
  simp
/-- Without the noughts ahead, so many digits are the number's own. -/
theorem nine_drop (k : Nat) : ∀ u, u < 10 ^ k → (nineL k u).dropWhile zero48 = decL u := by
  induction k with
  | zero =>
    intro u hu
    simp at hu
    subst hu
    simp [nineL, decL_zero]
  | succ k ih =>
    intro u hu
    rw [Nat.pow_succ] at hu
    have := ih (u / 10) (by omega)
    simp only [nineL]
    by_cases h10 : u / 10 = 0
    · rw [h10, decL_zero] at this
      rw [h10, drop_append_nil this]
      have hz := zero48_digit (u % 10) (by omega)
      by_cases h0 : u % 10 = 0
      · have hu0 : u = 0 := by omega
        rw [decide_eq_true h0] at hz
        rw [List.dropWhile_cons_of_pos hz, hu0, decL_zero]
        rfl
      · rw [decide_eq_false h0] at hz
        rw [List.dropWhile_cons_of_neg (by rw [hz]; decide), decL_pos (show u ≠ 0 by omega), h10, decL_zero]
        rfl
    · rw [drop_append_ne (by rw [this]; exact decL_ne h10), this, ← decL_pos (by omega)]
theorem dec_nine (k : Nat) : ∀ q r, q ≠ 0 → r < 10 ^ k → decL (q * 10 ^ k + r) = decL q ++ nineL k r := by
  induction k with
  | zero =>
    intro q r hq hr
    simp at hr
    subst hr
    simp [nineL]
  | succ k ih =>
    intro q r hq hr
    rw [Nat.pow_succ] at hr
    have hp := Nat.pow_pos (n := k) (show 0 < 10 by omega)
    have hqp : 0 < q * 10 ^ k := Nat.mul_pos (by omega) hp
    have e1 : q * 10 ^ (k + 1) = (q * 10 ^ k) * 10 := by rw [Nat.pow_succ, Nat.mul_assoc]
    rw [e1, decL_pos (by omega), show (q * 10 ^ k * 10 + r) / 10 = q * 10 ^ k + r / 10 by omega, ih q (r / 10) hq (by omega), show (q * 10 ^ k * 10 + r) % 10 = r % 10 by omega]
    simp [nineL]
/-- What the loop of Text puts together: nine digits at a time. -/
def chunks (n : Nat) : List UInt8 := if h : n = 0 then [] else chunks (n / 1000000000) ++ nineL 9 (n % 1000000000)
termination_by n
decreasing_by omega
theorem chunks_zero : chunks 0 = [] := by rw [chunks]; rfl
theorem chunks_pos {n : Nat} (h : n ≠ 0) : chunks n = chunks (n / 1000000000) ++ nineL 9 (n % 1000000000) := by rw [chunks, dif_neg h]
theorem chunks_drop (n : Nat) : (chunks n).dropWhile zero48 = decL n := by
  induction n using Nat.strongRecOn with
  | _ n ih =>
    by_cases h : n = 0
    · subst h; rw [chunks_zero, decL_zero]; rfl
    · rw [chunks_pos h]
      have := ih (n / 1000000000) (by omega)
      by_cases hq : n / 1000000000 = 0
      · rw [hq, decL_zero] at this
        rw [hq, drop_append_nil this, nine_drop 9 _ (by omega)]
        congr 1
        omega
      · rw [drop_append_ne (by rw [this]; exact decL_ne hq), this, ← dec_nine 9 _ _ hq (by omega)]
        congr 1
        omega
theorem trimByte_ev (n : Nat) : ∀ s : ByteArray, s.data.toList.length = n → s.size ≤ 1000000000000 → Ev (fun k => strings_trimLeftByte.l0 k s 48) ⟨(s.data.toList.dropWhile zero48).toArray⟩ := by
  induction n with
  | zero =>
    intro s hs hn
    have h0 := List.eq_nil_of_length_eq_zero hs
    have h1 : s.size = 0 := by rw [size_len, hs]
    refine Ev.step (f := fun _ => some _) (fun k => ?_) (Ev.now _)
    simp only [strings_trimLeftByte.l0]
    rw [if_neg (by omega)]
    congr 1
    apply ba_ext
    rw [h0]
    rfl
  | succ n ih =>
    intro s hs hn
    have h1 : s.size = n + 1 := by rw [size_len, hs]
    have hb : bt s 0 = ((s.data.toList[0]).toNat : Int) := bt_nat s 0 (by omega)
    obtain ⟨c, r, hcr⟩ : ∃ c r, s.data.toList = c :: r := List.exists_cons_of_length_eq_add_one hs
    have hc : (s.data.toList[0]'(by omega)) = c := by simp [hcr]
    rw [hc] at hb
    have hext : (s.extract 1 s.size).data.toList = r := by
      have hrl : r.length = n := by rw [hcr] at hs; simpa using hs
      rw [Lib.extract_data, hcr, List.drop_succ_cons, List.drop_zero, List.take_of_length_le (by omega)]
    by_cases hz : c = 48
    · subst hz
      have hrl : r.length = n := by rw [hcr] at hs; simpa using hs
      have := ih (s.extract 1 s.size) (by rw [hext]; exact hrl) (by rw [size_len, hext]; omega)
      rw [hext] at this
      refine Ev.step (fun k => ?_) (show Ev _ (⟨(s.data.toList.dropWhile zero48).toArray⟩ : ByteArray) from by rw [hcr, List.dropWhile_cons_of_pos (by rfl)]; exact this)
      simp only [strings_trimLeftByte.l0]
      rw [if_pos (by omega), if_pos (by omega), hb, if_pos (by rfl), if_pos (by omega)]
    · refine Ev.step (f := fun _ => some _) (fun k => ?_) (Ev.now _)
      simp only [strings_trimLeftByte.l0]
      have hcz : zero48 c = false := by unfold zero48; simpa using hz
      have hne : ¬ ((c.toNat : Int) = 48) := by
        intro h
        apply hz
        rw [← UInt8.toNat_inj]
        have : c.toNat = 48 := by omega
        rw [this]; rfl
      rw [if_pos (by omega), if_pos (by omega), hb, if_neg hne]
      congr 1
      apply ba_ext
      rw [hcr, List.dropWhile_cons_of_neg (by rw [hcz]; decide)]
theorem trim_ev (s : ByteArray) (hn : s.size ≤ 1000000000000) : Ev (fun k => strings_TrimLeft.f k s ⟨#[48]⟩) ⟨(s.data.toList.dropWhile zero48).toArray⟩ := by
  by_cases h : s.data.toList = []
  · refine Ev.congr (f := fun _ => some _) (fun k => ?_) (Ev.now _)
    unfold strings_TrimLeft.f
    rw [if_pos rfl, if_pos ((toList_nil s).2 h)]
    congr 1
    apply ba_ext
    rw [h]
    rfl
  · refine Ev.congr (fun k => ?_) (trimByte_ev _ s rfl hn)
    unfold strings_TrimLeft.f
    rw [if_pos rfl, if_neg (fun z => h ((toList_nil s).1 z))]
    rfl
theorem nineL_length (k u : Nat) : (nineL k u).length = k := by
  induction k generalizing u with
  | zero => rfl
  | succ k ih => simp [nineL, ih]
theorem append_data (a b : ByteArray) : (a ++ b).data.toList = a.data.toList ++ b.data.toList := by
  simp [ByteArray.data_append]
theorem text_l0 (n : Nat) : ∀ s : ByteArray, (dig n).length < 1000000000 → s.size + 9 * n ≤ s.size + 9 * n → ((chunks n ++ s.data.toList).length ≤ 1000000000000) → Ev (fun k => nat_Text.l0 k (dig n) s) (⟨(if (chunks n ++ s.data.toList).dropWhile zero48 = [] then [48] else (chunks n ++ s.data.toList).dropWhile zero48).toArray⟩ : ByteArray) := by
  induction n using Nat.strongRecOn with
  | _ n ih =>
    intro s hl _ hc
    by_cases hz : n = 0
    · subst hz
      rw [chunks_zero, List.nil_append] at hc ⊢
      rw [show ((0 : Nat) : Int) = 0 from rfl, dig_zero] at hl ⊢
      have ht := trim_ev s (by rw [size_len]; omega)
      refine Ev.step (fun k => by
        simp only [nat_Text.l0]
        rw [if_neg (by simp)]) (Ev.bind ht ?_)
      by_cases he : s.data.toList.dropWhile zero48 = []
      · refine Ev.congr (f := fun _ => some _) (fun k => ?_) (Ev.now _)
        rw [if_pos he, if_pos (by rw [toList_nil]; simpa using he)]
      · refine Ev.congr (f := fun _ => some _) (fun k => ?_) (Ev.now _)
        rw [if_neg he, if_neg (by rw [toList_nil]; simpa using he)]
    · have hsm := small_ev (dig n) 1000000000 (dig_lim _) (by omega) (by omega) hl
      rw [val_dig (by omega)] at hsm
      have e1 : (n : Int) / 1000000000 = ((n / 1000000000 : Nat) : Int) := by omega
      have e2 : (n : Int) % 1000000000 = ((n % 1000000000 : Nat) : Int) := by omega
      rw [e1, e2] at hsm
      have hlen : 0 < (dig n).length := by
        have : dig (n : Int) ≠ [] := by rw [Ne, dig_eq_nil (by omega)]; omega
        cases h : dig (n : Int) with
        | nil => exact absurd h this
        | cons _ _ => simp
      have hlq : (dig ((n / 1000000000 : Nat) : Int)).length ≤ (dig (n : Int)).length := by
        have := lt_of_dig_length (n := (n : Int)) (by omega) (Nat.le_refl _)
        exact dig_length_le (by omega) (by omega)
      have hcn := chunks_pos hz
      have hst : ((⟨(nineL 9 (n % 1000000000)).toArray⟩ : ByteArray) ++ s).data.toList = nineL 9 (n % 1000000000) ++ s.data.toList := by rw [append_data]
      have := ih (n / 1000000000) (by omega) ((⟨(nineL 9 (n % 1000000000)).toArray⟩ : ByteArray) ++ s) (by omega) (by omega) (by rw [hst, ← List.append_assoc, ← hcn]; exact hc)
      rw [hst, ← List.append_assoc, ← hcn] at this
      refine Ev.step (fun k => by
        simp only [nat_Text.l0]
        rw [if_pos (by omega)]) (Ev.bind hsm ?_)
      refine Ev.congr (fun k => ?_) this
      simp only []
      have h9 : nat_nine.f ((n % 1000000000 : Nat) : Int) = some ⟨(nineL 9 (n % 1000000000)).toArray⟩ := by
        unfold nat_nine.f
        rw [if_pos (by omega), Int.toNat_natCast]
      rw [h9, Option.bind_some, if_pos]
      have z1 : (⟨(nineL 9 (n % 1000000000)).toArray⟩ : ByteArray).size = 9 := by
        rw [size_len]; simp [nineL_length]
      rw [z1, size_len]
      rw [List.length_append] at hc
      omega
theorem chunks_length (n m : Nat) (h : (n : Int) < pw m) : (chunks n).length ≤ 18 * m := by
  induction m generalizing n with
  | zero => rw [pw_zero] at h; rw [show n = 0 by omega, chunks_zero]; simp
  | succ m ih =>
    rw [pw_succ] at h
    by_cases hz : n = 0
    · rw [hz, chunks_zero]; simp
    · rw [chunks_pos hz, List.length_append, nineL_length]
      by_cases hq : n / 1000000000 = 0
      · rw [hq, chunks_zero]; simp; omega
      · rw [chunks_pos hq, List.length_append, nineL_length]
        have := ih (n / 1000000000 / 1000000000) (by omega)
        omega
theorem text_ev (l : List Int) (h : Lim l) (hn : l.length < 1000000) : Ev (fun k => nat_Text.f k l) (⟨(textL (val l).toNat).toArray⟩ : ByteArray) := by
  have hv := val_nonneg h
  have hl := val_lt h
  have hd := dig_length l h
  have hc := chunks_length (val l).toNat l.length (by omega)
  have := text_l0 (val l).toNat (⟨#[]⟩ : ByteArray) (by rw [show (((val l).toNat : Nat) : Int) = val l by omega]; omega) (Nat.le_refl _) (by simp; omega)
  rw [show (((val l).toNat : Nat) : Int) = val l by omega] at this
  have e : (chunks (val l).toNat ++ (⟨#[]⟩ : ByteArray).data.toList).dropWhile zero48 = decL (val l).toNat := by
    rw [show (⟨#[]⟩ : ByteArray).data.toList = [] from rfl, List.append_nil, chunks_drop]
  rw [e] at this
  have e2 : (if decL (val l).toNat = [] then [48] else decL (val l).toNat) = textL (val l).toNat := by
    unfold textL
    by_cases hz : (val l).toNat = 0
    · rw [if_pos hz, hz, decL_zero, if_pos rfl]
    · rw [if_neg hz, if_neg (decL_ne hz)]
  rw [e2] at this
  refine Ev.congr (fun k => ?_) this
  unfold nat_Text.f
  rw [norm_ev l h (by omega), Option.bind_some]

/-! ### Parse -/
def isD (c : UInt8) : Bool := decide (48 ≤ c.toNat) && decide (c.toNat ≤ 57)
/-- The number of digits, behind a number. -/
def decV (v : Int) : List UInt8 → Int
  | [] => v
  | c :: r => decV (v * 10 + (c.toNat - 48)) r
/-- What a text's number is: its limbs and whether it is one (8: it is none). -/
def parseR (l : List UInt8) : List Int × Int :=
  if l = [] then ([], 8) else if 2000 < l.length then ([], 8) else if l.head? = some 48 ∧ l ≠ [48] then ([], 8) else if l.all isD then (dig (decV 0 l), 0) else ([], 8)
theorem parse_l0 (s : ByteArray) (hs : s.data.toList.length ≤ 2000) (d : Nat) : ∀ (i : Nat) (v : Int), i + d = s.data.toList.length → 0 ≤ v → v < pw i →
    Ev (fun k => nat_Parse.l0 k s (dig v) (i : Int)) (if (s.data.toList.drop i).all isD then (dig (decV v (s.data.toList.drop i)), 0) else ([], 8)) := by
  induction d with
  | zero =>
    intro i v hi h0 h1
    have hl := dig_length_le h0 h1
    refine Ev.step (f := fun _ => some _) (fun k => ?_) (Ev.now _)
    simp only [nat_Parse.l0]
    rw [if_neg (by rw [size_len]; omega), norm_ev _ (dig_lim _) (by omega), List.drop_eq_nil_of_le (by omega), val_dig h0]
    rfl
  | succ d ih =>
    intro i v hi h0 h1
    have hlt : i < s.data.toList.length := by omega
    have hl := dig_length_le h0 h1
    have hdrop : s.data.toList.drop i = s.data.toList[i] :: s.data.toList.drop (i + 1) := List.drop_eq_getElem_cons hlt
    have hb := bt_nat s i hlt
    rw [hdrop]
    obtain ⟨c, hc⟩ : ∃ c, c = s.data.toList[i] := ⟨_, rfl⟩
    rw [← hc] at hb ⊢
    by_cases c1 : c.toNat < 48
    · refine Ev.step (f := fun _ => some _) (fun k => ?_) (Ev.now _)
      simp only [nat_Parse.l0]
      have hf : isD c = false := by unfold isD; simp; omega
      rw [if_pos (by rw [size_len]; omega), hb, if_pos (by omega), List.all_cons, hf]
      rfl
    by_cases c2 : 57 < c.toNat
    · refine Ev.step (f := fun _ => some _) (fun k => ?_) (Ev.now _)
      simp only [nat_Parse.l0]
      have hf : isD c = false := by unfold isD; simp; omega
      rw [if_pos (by rw [size_len]; omega), hb, if_neg (by omega), if_pos (by omega), List.all_cons, hf]
      rfl
    have ht : isD c = true := by unfold isD; simp; omega
    have hm := mul_ev (dig v) [10] (dig_lim _) (lim_one (by omega) (by omega)) (by omega) (by simp)
    rw [val_dig h0, val_one] at hm
    have h2 : v * 10 < pw (i + 1) := by rw [pw_succ]; omega
    have hml := dig_length_le (by omega) h2
    have hx0 : (0 : Int) ≤ c.toNat - 48 := by omega
    have hx1 : (c.toNat : Int) - 48 < 10 := by omega
    have ha := add_ev (dig (v * 10)) [(c.toNat : Int) - 48] (dig_lim _) (lim_one hx0 (by omega)) (by omega) (by simp)
    rw [val_dig (by omega), val_one] at ha
    have := ih (i + 1) (v * 10 + (c.toNat - 48)) (by omega) (by omega) (by rw [pw_succ]; omega)
    rw [List.all_cons, ht]
    refine Ev.step (fun k => by
      simp only [nat_Parse.l0]
      rw [if_pos (by rw [size_len]; omega), hb, if_neg (by omega), if_neg (by omega)]) (Ev.bind hm (Ev.bind ha ?_))
    refine Ev.congr (fun k => by rw [show (i : Int) + 1 = ((i + 1 : Nat) : Int) by omega]) this
theorem parse_ev (s : ByteArray) (hsz : s.size ≤ 1000000000) : Ev (fun k => nat_Parse.f k s) (parseR s.data.toList) := by
  have hl := size_len s
  unfold parseR
  by_cases h1 : s.data.toList = []
  · refine Ev.congr (f := fun _ => some _) (fun k => ?_) (Ev.now _)
    unfold nat_Parse.f
    rw [if_pos ((toList_nil s).2 h1), if_pos h1]
  rw [if_neg h1]
  have h1' : ¬ s.toList = ([] : List UInt8) := fun z => h1 ((toList_nil s).1 z)
  by_cases h2 : 2000 < s.data.toList.length
  · refine Ev.congr (f := fun _ => some _) (fun k => ?_) (Ev.now _)
    unfold nat_Parse.f
    rw [if_neg h1', if_pos (by omega), if_pos h2]
  rw [if_neg h2]
  obtain ⟨c, r, hcr⟩ : ∃ c r, s.data.toList = c :: r := by
    cases h : s.data.toList with
    | nil => exact absurd h h1
    | cons c r => exact ⟨c, r, rfl⟩
  have hb : bt s 0 = (c.toNat : Int) := by
    have := bt_nat s 0 (by rw [hcr]; simp)
    simp only [hcr, List.getElem_cons_zero] at this
    exact this
  have hiff : (bt s 0 = 48 ∧ ¬ s.toList = ([48] : List UInt8)) ↔ (s.data.toList.head? = some 48 ∧ s.data.toList ≠ [48]) := by
    rw [Lib.toList_data, hb, hcr]
    simp only [List.head?_cons, Option.some.injEq]
    constructor
    · rintro ⟨h, h'⟩
      refine ⟨?_, h'⟩
      rw [← UInt8.toNat_inj]
      have : c.toNat = 48 := by omega
      rw [this]; rfl
    · rintro ⟨rfl, h'⟩
      exact ⟨rfl, h'⟩
  by_cases h3 : s.data.toList.head? = some 48 ∧ s.data.toList ≠ [48]
  · refine Ev.congr (f := fun _ => some _) (fun k => ?_) (Ev.now _)
    unfold nat_Parse.f
    rw [if_neg h1', if_neg (by omega), if_pos (hiff.2 h3), if_pos h3]
  rw [if_neg h3]
  have := parse_l0 s (by omega) s.data.toList.length 0 0 (by omega) (by omega) (by rw [pw_zero]; omega)
  rw [List.drop_zero, dig_zero] at this
  refine Ev.congr (fun k => ?_) this
  unfold nat_Parse.f
  rw [if_neg h1', if_neg (by omega), if_neg (fun z => h3 (hiff.1 z))]
  rfl

/-! ### digits and back -/
theorem decV_append (a b : List UInt8) (v : Int) : decV v (a ++ b) = decV (decV v a) b := by
  induction a generalizing v with
  | nil => rfl
  | cons c a ih => simp only [List.cons_append, decV, ih]
theorem decV_decL (n : Nat) : decV 0 (decL n) = n := by
  induction n using Nat.strongRecOn with
  | _ n ih =>
    by_cases h : n = 0
    · subst h; rw [decL_zero]; rfl
    · rw [decL_pos h, decV_append, ih _ (by omega)]
      simp only [decV]
      rw [ofNat48 _ (by omega)]
      omega
theorem decL_all (n : Nat) : (decL n).all isD = true := by
  induction n using Nat.strongRecOn with
  | _ n ih =>
    by_cases h : n = 0
    · subst h; rw [decL_zero]; rfl
    · rw [decL_pos h, List.all_append, ih _ (by omega)]
      simp only [List.all_cons, List.all_nil, Bool.and_true, Bool.true_and]
      unfold isD
      rw [ofNat48 _ (by omega)]
      simp
      omega
theorem decL_head (n : Nat) (h : n ≠ 0) : (decL n).head? ≠ some 48 := by
  induction n using Nat.strongRecOn with
  | _ n ih =>
    rw [decL_pos h]
    by_cases h10 : n / 10 = 0
    · rw [h10, decL_zero]
      simp only [List.nil_append, List.head?_cons]
      intro e
      have := Option.some.inj e
      rw [← UInt8.toNat_inj, ofNat48 _ (by omega)] at this
      simp at this
      omega
    · have := ih _ (by omega) h10
      cases hd : decL (n / 10) with
      | nil => exact absurd hd (decL_ne h10)
      | cons c r => rw [hd] at this; simpa using this
theorem decL_length (n m : Nat) (h : n < 10 ^ m) : (decL n).length ≤ m := by
  induction m generalizing n with
  | zero => simp at h; subst h; rw [decL_zero]; simp
  | succ m ih =>
    by_cases hz : n = 0
    · subst hz; rw [decL_zero]; simp
    · rw [Nat.pow_succ] at h
      rw [decL_pos hz]
      have := ih (n / 10) (by omega)
      simp; omega
theorem textL_ne (n : Nat) : textL n ≠ [] := by unfold textL; split; · simp
                                                · rename_i h; exact decL_ne h
theorem parse_text (n : Nat) (h : (textL n).length ≤ 2000) : parseR (textL n) = (dig n, 0) := by
  unfold parseR
  rw [if_neg (textL_ne n), if_neg (by omega)]
  by_cases hz : n = 0
  · subst hz
    rfl
  · have e : textL n = decL n := by unfold textL; rw [if_neg hz]
    rw [e, if_neg (fun z => decL_head n hz z.1), if_pos (decL_all n), decV_decL]
/-- A text of digits without a nought ahead is its number's. -/
theorem decV_nonneg (l : List UInt8) (hl : l.all isD = true) : ∀ v, 0 ≤ v → 0 ≤ decV v l := by
  induction l with
  | nil => intro v h; exact h
  | cons c l ih =>
    intro v h
    rw [List.all_cons, Bool.and_eq_true] at hl
    have : 48 ≤ c.toNat := by have := hl.1; unfold isD at this; simp at this; exact this.1
    exact ih hl.2 _ (by omega)
theorem decL_decV (l : List UInt8) (hl : l.all isD = true) : ∀ v : Nat, v ≠ 0 → decL (decV v l).toNat = decL v ++ l := by
  induction l with
  | nil => intro v h; simp [decV]
  | cons c l ih =>
    intro v h
    rw [List.all_cons, Bool.and_eq_true] at hl
    have hc : 48 ≤ c.toNat ∧ c.toNat ≤ 57 := by have := hl.1; unfold isD at this; simpa using this
    simp only [decV]
    have e : ((v : Int) * 10 + (c.toNat - 48)) = ((v * 10 + (c.toNat - 48) : Nat) : Int) := by omega
    rw [e, ih hl.2 _ (by omega), decL_pos (show v * 10 + (c.toNat - 48) ≠ 0 by omega), show (v * 10 + (c.toNat - 48)) / 10 = v by omega, show (v * 10 + (c.toNat - 48)) % 10 = c.toNat - 48 by omega, show 48 + (c.toNat - 48) = c.toNat by omega]
    simp
theorem text_parse (l : List UInt8) (h : (parseR l).2 = 0) : textL (decV 0 l).toNat = l ∧ parseR l = (dig (decV 0 l), 0) ∧ 0 ≤ decV 0 l := by
  unfold parseR at h ⊢
  by_cases h1 : l = []
  · rw [if_pos h1] at h; simp at h
  rw [if_neg h1] at h ⊢
  by_cases h2 : 2000 < l.length
  · rw [if_pos h2] at h; simp at h
  rw [if_neg h2] at h ⊢
  by_cases h3 : l.head? = some 48 ∧ l ≠ [48]
  · rw [if_pos h3] at h; simp at h
  rw [if_neg h3] at h ⊢
  by_cases h4 : l.all isD = true
  · rw [if_pos h4]
    refine ⟨?_, rfl, decV_nonneg l h4 0 (by omega)⟩
    cases l with
    | nil => exact absurd rfl h1
    | cons c r =>
      rw [List.all_cons, Bool.and_eq_true] at h4
      have hc : 48 ≤ c.toNat ∧ c.toNat ≤ 57 := by have := h4.1; unfold isD at this; simpa using this
      by_cases hz : c = 48
      · have : (c :: r : List UInt8) = [48] := by
          by_cases hr : (c :: r : List UInt8) = [48]
          · exact hr
          · exact absurd ⟨by rw [hz]; rfl, hr⟩ h3
        rw [this]; rfl
      · have hn : c.toNat ≠ 48 := fun z => hz (by rw [← UInt8.toNat_inj, z]; rfl)
        simp only [decV]
        have e : ((0 : Int) * 10 + (c.toNat - 48)) = ((c.toNat - 48 : Nat) : Int) := by omega
        rw [e]
        have hd := decL_decV r h4.2 (c.toNat - 48) (by omega)
        have hd1 : decL (c.toNat - 48) = [c] := by
          rw [decL_pos (by omega), show (c.toNat - 48) / 10 = 0 by omega, decL_zero, show (c.toNat - 48) % 10 = c.toNat - 48 by omega, show 48 + (c.toNat - 48) = c.toNat by omega]
          simp
        rw [hd1] at hd
        unfold textL
        rw [if_neg]
        · exact hd
        · intro z
          rw [z, decL_zero] at hd
          simp at hd
  · rw [if_neg h4] at h; simp at h
theorem parse_err (l : List UInt8) (h : (parseR l).2 ≠ 0) : parseR l = ([], 8) := by
  unfold parseR at h ⊢
  split
  · rfl
  · split
    · rfl
    · split
      · rfl
      · split
        · rename_i a b c d
          rw [if_neg a, if_neg b, if_neg c, if_pos d] at h
          exact absurd rfl h
        · rfl
end Go.Proofs.YtlfpnohpcemkgaaDoor.V
/- The reference's texts: the digits of a number, and back. -/
namespace Go.Proofs.YtlfpnohpcemkgaaDoor.V
set_option linter.unusedVariables false
set_option linter.unusedSimpArgs false
open Go.RowKit Go.Proofs.YtlfpnohpcemkgaaDoor.PA Go.Proofs.YtlfpnohpcemkgaaDoor.H Go.Proofs.YtlfpnohpcemkgaaDoorW.PrintWords Go.Proofs.YtlfpnohpcemkgaaDoorW.PrintLast Go.Proofs.YtlfpnohpcemkgaaDoorW.PrintMore

/-! ### decimal digits, the lowest one first -/
def dval : List Int → Int
  | [] => 0
  | x :: r => x + 10 * dval r
def Dig (l : List Int) : Prop := ∀ x ∈ l, 0 ≤ x ∧ x < 10
def t10 (n : Nat) : Int := 10 ^ n
theorem t10_zero : t10 0 = 1 := rfl
theorem t10_succ (n : Nat) : t10 (n + 1) = 10 * t10 n := by unfold t10; rw [Int.pow_succ]; omega
theorem t10_pos (n : Nat) : 0 < t10 n := by
  induction n with
  | zero => decide
  | succ n ih => rw [t10_succ]; omega
theorem t10_le {a b : Nat} (h : a ≤ b) : t10 a ≤ t10 b := by
  induction b with
  | zero => rw [show a = 0 by omega]; exact Int.le_refl _
  | succ b ih =>
    by_cases e : a = b + 1
    · rw [e]; exact Int.le_refl _
    · have := ih (by omega)
      have := t10_pos b
      rw [t10_succ]; omega
theorem dval_append (a b : List Int) : dval (a ++ b) = dval a + t10 a.length * dval b := by
  induction a with
  | nil => simp [dval, t10_zero]
  | cons x a ih => simp only [List.cons_append, dval, ih, List.length_cons, t10_succ]; grind
theorem dval_nonneg {l : List Int} (h : Dig l) : 0 ≤ dval l := by
  induction l with
  | nil => simp [dval]
  | cons x l ih =>
    have := ih (fun y hy => h y (List.mem_cons_of_mem _ hy))
    have := h x List.mem_cons_self
    simp only [dval]; omega
theorem dval_take_succ (l : List Int) (i : Nat) (h : i < l.length) : dval (l.take (i + 1)) = dval (l.take i) + t10 i * l[i] := by
  rw [List.take_succ_eq_append_getElem h, dval_append, List.length_take, Nat.min_eq_left (Nat.le_of_lt h)]
  simp [dval]
/-- No nought stands highest. -/
def Top (l : List Int) : Prop := l ≠ [] → t10 (l.length - 1) ≤ dval l
theorem show_digits (l : List Int) : Dig l → Top l → (l.reverse.map fun x => UInt8.ofNat (48 + x).toNat) = decL (dval l).toNat := by
  induction l with
  | nil => intro _ _; simp [dval, decL_zero]
  | cons x l ih =>
    intro hd ht
    have hx := hd x List.mem_cons_self
    have hdl : Dig l := fun y hy => hd y (List.mem_cons_of_mem _ hy)
    have h0 := dval_nonneg hdl
    have ht' := ht (by simp)
    simp only [List.length_cons, Nat.add_sub_cancel, dval] at ht'
    have htl : Top l := by
      intro hne
      cases l with
      | nil => exact absurd rfl hne
      | cons y r =>
        simp only [List.length_cons, Nat.add_sub_cancel] at ht' ⊢
        rw [t10_succ] at ht'
        omega
    have hp := t10_pos l.length
    have hpos : (dval (x :: l)).toNat ≠ 0 := by simp only [dval]; omega
    rw [decL_pos hpos, List.reverse_cons, List.map_append, ih hdl htl]
    simp only [dval, List.map_cons, List.map_nil]
    rw [show (x + 10 * dval l).toNat / 10 = (dval l).toNat by omega, show (48 + x).toNat = 48 + (x + 10 * dval l).toNat % 10 by omega]
theorem rtext_l2 (d : List Int) (hd : Dig d) (hl : d.length ≤ 1000000000) (j : Nat) (hj : j ≤ d.length) : ∀ out : List Int, out.length = d.length - j → Ev (fun k => gudgeonref01_Text.l2 k d out ((j : Int) - 1)) (strOfNums (out ++ ((d.take j).reverse.map fun x => 48 + x))) := by
  induction j with
  | zero =>
    intro out ho
    refine Ev.step (f := fun _ => some _) (fun k => ?_) (Ev.now _)
    simp only [gudgeonref01_Text.l2]
    rw [if_neg (by omega)]
    simp
  | succ j ih =>
    intro out ho
    have hjd : j < d.length := by omega
    have g := hd d[j] (List.getElem_mem hjd)
    have := ih (by omega) (out ++ [48 + d[j]]) (by simp; omega)
    have e : (out ++ [48 + d[j]]) ++ ((d.take j).reverse.map fun x => 48 + x) = out ++ ((d.take (j + 1)).reverse.map fun x => 48 + x) := by
      rw [List.take_succ_eq_append_getElem hjd]
      simp only [List.reverse_append, List.reverse_cons, List.reverse_nil, List.nil_append, List.map_append, List.map_cons, List.map_nil, List.append_assoc, List.cons_append]
    rw [e] at this
    refine Ev.step (fun k => ?_) this
    simp only [gudgeonref01_Text.l2]
    rw [show ((j + 1 : Nat) : Int) - 1 = (j : Int) by omega, if_pos (by omega), if_pos (by omega), if_pos (by omega), if_pos (by omega), rd_get _ _ hjd, w64 (x := 48 + d[j]) (by omega) (by omega), w64 (by omega) (by omega), Int.emod_eq_of_lt (by omega) (by omega)]
theorem step_dbl {V P c A x q r c0 : Int} (h : V + P * c = 2 * A + c0) (e : r + 10 * q = 2 * x + c) : V + P * r + (10 * P) * q = 2 * (A + P * x) + c0 := by grind
/-- One round of doubling: the digits are doubled, and a bit is put behind. -/
theorem rtext_l1 (B d0 : List Int) (b : Bool) (hd0 : Dig d0) (ht0 : Top d0) (hn : d0.length ≤ 1000000000) (X : List Bool) (i : Nat) (hi : i ≤ 1000000000) (r : ByteArray)
    (hc : ∀ d : List Int, Dig d → Top d → d.length ≤ d0.length + 1 → dval d = 2 * dval d0 + b2i b → Ev (fun k => gudgeonref01_Text.l0 k X d ((i : Int) - 1)) r) (m : Nat) : ∀ (j : Nat) (d : List Int) (c : Int), j + m = d0.length → d.length = d0.length → Dig d → 0 ≤ c → c ≤ 1 → d.drop j = d0.drop j → dval (d.take j) + t10 j * c = 2 * dval (d0.take j) + b2i b →
    Ev (fun k => gudgeonref01_Text.l1 k X d (i : Int) c (j : Int)) r := by
  induction m with
  | zero =>
    intro j d c hj hl hD c0 c1 hdr hv
    obtain rfl : j = d0.length := by omega
    rw [List.take_of_length_le (by omega), List.take_of_length_le (by omega)] at hv
    have hb := b2i_rng b
    have h0 := dval_nonneg hD
    have h00 := dval_nonneg hd0
    by_cases hc0 : c = 0
    · subst hc0
      rw [Int.mul_zero, Int.add_zero] at hv
      refine Ev.step (fun k => ?_) (hc d hD ?_ (by omega) hv)
      · simp only [gudgeonref01_Text.l1]
        rw [if_neg (by omega), if_neg (by omega), w64 (by omega) (by omega)]
      · intro hne
        have hne0 : d0 ≠ [] := by
          intro h
          rw [h] at hl
          exact hne (List.eq_nil_of_length_eq_zero (by simpa using hl))
        have := ht0 hne0
        rw [hl]
        omega
    · have hc1 : c = 1 := by omega
      subst hc1
      rw [Int.mul_one] at hv
      have hval : dval (d ++ [1]) = 2 * dval d0 + b2i b := by
        rw [dval_append, hl]; simp [dval]; omega
      refine Ev.step (fun k => ?_) (hc (d ++ [1]) ?_ ?_ (by simp; omega) hval)
      · simp only [gudgeonref01_Text.l1]
        rw [if_neg (by omega), if_pos (by omega), if_pos (by omega), w64 (by omega) (by omega)]
      · intro x hx
        rcases List.mem_append.1 hx with hx | hx
        · exact hD x hx
        · simp at hx; omega
      · intro _
        rw [dval_append, hl]
        simp [hl, dval]
        omega
  | succ m ih =>
    intro j d c hj hl hD c0 c1 hdr hv
    have hjd : j < d.length := by omega
    have hjd0 : j < d0.length := by omega
    have g := hD d[j] (List.getElem_mem hjd)
    have he : d[j] = d0[j] := by
      have : (d.drop j)[0]? = (d0.drop j)[0]? := by rw [hdr]
      simp only [List.getElem?_drop, Nat.add_zero] at this
      rw [List.getElem?_eq_getElem hjd, List.getElem?_eq_getElem hjd0] at this
      exact Option.some.inj this
    have hnn : 0 ≤ 2 * d[j] + c := by omega
    refine Ev.step (fun k => ?_) (ih (j + 1) (d.set j ((2 * d[j] + c) % 10)) ((2 * d[j] + c) / 10) (by omega) (by simpa using hl) ?_ (by omega) (by omega) ?_ ?_)
    · simp only [gudgeonref01_Text.l1]
      rw [if_pos (by omega), if_pos (by omega), rd_get _ _ hjd, w64 (x := 2 * d[j]) (by omega) (by omega), w64 (x := 2 * d[j] + c) (by omega) (by omega), Int.tmod_eq_emod_of_nonneg hnn, Int.tdiv_eq_ediv_of_nonneg hnn, w64 (x := (2 * d[j] + c) / 10) (by omega) (by omega), w64 (x := (j : Int) + 1) (by omega) (by omega), Int.toNat_natCast]
      rfl
    · intro x hx
      rcases List.mem_or_eq_of_mem_set hx with hx | rfl
      · exact hD x hx
      · omega
    · rw [List.drop_set_of_lt (by omega)]
      have e1 : d.drop (j + 1) = (d.drop j).drop 1 := by rw [List.drop_drop]
      have e2 : d0.drop (j + 1) = (d0.drop j).drop 1 := by rw [List.drop_drop]
      rw [e1, e2, hdr]
    · have e3 : dval ((d.set j ((2 * d[j] + c) % 10)).take (j + 1)) = dval (d.take j) + t10 j * ((2 * d[j] + c) % 10) := by
        rw [dval_take_succ _ _ (by simpa using hjd), List.take_set_of_le (Nat.le_refl j)]
        simp
      rw [e3, dval_take_succ _ _ hjd0, t10_succ, ← he]
      exact step_dbl hv (by omega)
theorem strOfNums_list (l : List Int) : (strOfNums l).data.toList = l.map fun n => UInt8.ofNat n.toNat := rfl
theorem rtext_l0 (X : List Bool) (hX : X.length ≤ 1000000) (i : Nat) (hi : i ≤ X.length) : ∀ d : List Int, Dig d → Top d → d.length ≤ X.length - i → dval d = bval (X.drop i) → Ev (fun k => gudgeonref01_Text.l0 k X d ((i : Int) - 1)) (⟨(textL (bval X).toNat).toArray⟩ : ByteArray) := by
  induction i with
  | zero =>
    intro d hD hT hl hv
    rw [List.drop_zero] at hv
    have hX0 := bval_nonneg X
    by_cases hz : d = []
    · subst hz
      refine Ev.step (f := fun _ => some _) (fun k => ?_) (Ev.now _)
      simp only [dval] at hv
      simp only [gudgeonref01_Text.l0]
      rw [if_neg (by omega), if_pos (by simp), ← hv]
      rfl
    · have := rtext_l2 d hD (by omega) d.length (Nat.le_refl _) [] (by simp)
      have hne : d.length ≠ 0 := fun h => hz (List.eq_nil_of_length_eq_zero h)
      have e : strOfNums ([] ++ ((d.take d.length).reverse.map fun x => 48 + x)) = (⟨(textL (bval X).toNat).toArray⟩ : ByteArray) := by
        apply ba_ext
        rw [strOfNums_list, List.take_of_length_le (Nat.le_refl _), List.nil_append, List.map_map]
        have h1 := show_digits d hD hT
        rw [hv] at h1
        have h2 : (bval X).toNat ≠ 0 := by
          have := hT hz
          have := t10_pos (d.length - 1)
          omega
        have h3 : textL (bval X).toNat = decL (bval X).toNat := by unfold textL; rw [if_neg h2]
        rw [h3, ← h1]
        rfl
      rw [e] at this
      refine Ev.step (fun k => ?_) this
      simp only [gudgeonref01_Text.l0]
      rw [if_neg (by omega), if_neg (by omega), w64 (by omega) (by omega)]
  | succ i ih =>
    intro d hD hT hl hv
    have hdrop := bval_drop_getD X i
    have hb := b2i_rng (X.getD i false)
    have hnext := rtext_l1 [] d (X.getD i false) hD hT (by omega) X i (by omega) _ (fun d' h1 h2 h3 h4 => ih (by omega) d' h1 h2 (by omega) (by rw [h4, hv, hdrop]; omega)) d.length 0 d (b2i (X.getD i false)) (by omega) rfl hD hb.1 hb.2 rfl (by simp [dval, t10_zero])
    refine Ev.step (f := fun k => gudgeonref01_Text.j1 k X d (i : Int) (b2i (X.getD i false))) (fun k => ?_) (Ev.step (fun k => ?_) hnext)
    · simp only [gudgeonref01_Text.l0]
      rw [show ((i + 1 : Nat) : Int) - 1 = (i : Int) by omega, if_pos (by omega), if_pos (by omega), if_pos (by omega), rdOf_D]
      cases X.getD i false
      · rw [if_neg (by decide)]; rfl
      · rw [if_pos rfl]; rfl
    · simp only [gudgeonref01_Text.j1]
      rfl
theorem refText_ev (l : List Int) (hL : Lim l) (hs : SZ l) : Ev (fun k => gudgeonref01_Text.f k l) (⟨(textL (val l).toNat).toArray⟩ : ByteArray) := by
  have hbl := bits_len_of l hL hs
  have hv := val_nonneg hL
  have hs' := hs
  unfold SZ at hs'
  have := rtext_l0 (bits (val l)) (by omega) _ (Nat.le_refl _) [] (fun x h => by cases h) (fun h => absurd rfl h) (by simp) (by rw [List.drop_eq_nil_of_le (Nat.le_refl _)]; rfl)
  rw [bval_bits hv] at this
  refine Ev.congr (fun k => rfl) (Ev.bind (Bits_ev l hL (by omega)) (Ev.congr (fun k => ?_) this))
  rw [w64 (by omega) (by omega)]

/-! ### Parse -/
theorem rparse_l0 (s : ByteArray) (hs : s.data.toList.length ≤ 2000) (d : Nat) : ∀ (i : Nat) (v : Int), i + d = s.data.toList.length → 0 ≤ v → v < p2 (4 * i) →
    Ev (fun k => gudgeonref01_Parse.l0 k s [false, true, false, true] (bits v) (i : Int)) (if (s.data.toList.drop i).all isD then (dig (decV v (s.data.toList.drop i)), 0) else ([], 8)) := by
  induction d with
  | zero =>
    intro i v hi h0 h1
    have hl := bits_length_le h0 h1
    have hlim := Limbs_ev v h0 (by omega)
    rw [List.drop_eq_nil_of_le (by omega)]
    refine Ev.step (fun k => ?_) (Ev.bind (f := fun _ t => some (t, (0 : Int))) hlim (Ev.now _))
    simp only [gudgeonref01_Parse.l0]
    rw [if_neg (by rw [size_len]; omega)]
  | succ d ih =>
    intro i v hi h0 h1
    have hlt : i < s.data.toList.length := by omega
    have hl := bits_length_le h0 h1
    have hdrop : s.data.toList.drop i = s.data.toList[i] :: s.data.toList.drop (i + 1) := List.drop_eq_getElem_cons hlt
    have hb := bt_nat s i hlt
    rw [hdrop]
    obtain ⟨c, hc⟩ : ∃ c, c = s.data.toList[i] := ⟨_, rfl⟩
    rw [← hc] at hb ⊢
    have hfail : isD c = false → Ev (fun k => gudgeonref01_Parse.j2 k s [false, true, false, true] (bits v) (i : Int) true) (if (c :: s.data.toList.drop (i + 1)).all isD then (dig (decV v (c :: s.data.toList.drop (i + 1))), 0) else ([], 8)) := by
      intro hf
      refine Ev.step (f := fun _ => some _) (fun k => ?_) (Ev.now _)
      rw [List.all_cons, hf]
      simp only [gudgeonref01_Parse.j2]
      rfl
    by_cases c1 : c.toNat < 48
    · refine Ev.step (fun k => ?_) (hfail (by unfold isD; simp; omega))
      simp only [gudgeonref01_Parse.l0]
      rw [if_pos (by rw [size_len]; omega), if_pos (by omega), hb, if_pos (by omega)]
    by_cases c2 : 57 < c.toNat
    · refine Ev.step (fun k => ?_) (hfail (by unfold isD; simp; omega))
      simp only [gudgeonref01_Parse.l0]
      rw [if_pos (by rw [size_len]; omega), if_pos (by omega), hb, if_neg (by omega), decide_eq_true (by omega)]
    have ht : isD c = true := by unfold isD; simp; omega
    have hm := bmul_ev [false, true, false, true] (bits v) (by simp) (by omega)
    rw [bval_bits h0, show bval [false, true, false, true] = 10 from by simp [bval, b2i]] at hm
    have h2 : 10 * v < p2 (4 * (i + 1)) := by
      rw [show 4 * (i + 1) = 4 * i + 1 + 1 + 1 + 1 by omega, p2_succ, p2_succ, p2_succ, p2_succ]; omega
    have hml := bits_length_le (n := 10 * v) (by omega) h2
    have hBits := Bits_ev [(c.toNat : Int) - 48] (lim_one (by omega) (by omega)) (by simp)
    rw [val_one] at hBits
    have hbl : (bits ((c.toNat : Int) - 48)).length ≤ 4 := bits_length_le (by omega) (by rw [show p2 4 = 16 from rfl]; omega)
    have ha := badd_ev (bits (10 * v)) (bits ((c.toNat : Int) - 48)) (by unfold LB; omega) (by unfold LB; omega)
    rw [bval_bits (by omega), bval_bits (by omega), show 10 * v + ((c.toNat : Int) - 48) = v * 10 + (c.toNat - 48) by omega] at ha
    have := ih (i + 1) (v * 10 + (c.toNat - 48)) (by omega) (by omega) (by
      rw [show 4 * (i + 1) = 4 * i + 1 + 1 + 1 + 1 by omega, p2_succ, p2_succ, p2_succ, p2_succ]; omega)
    rw [List.all_cons, ht]
    refine Ev.step (f := fun k => gudgeonref01_Parse.j2 k s [false, true, false, true] (bits v) (i : Int) false) (fun k => ?_) (Ev.step (fun k => ?_) (Ev.bind (f := fun k t => (gudgeonref01_Bits.f k [(c.toNat : Int) - 48]).bind fun u => (gudgeonref01_add.f k t u).bind fun z => gudgeonref01_Parse.l0 k s [false, true, false, true] z ((i + 1 : Nat) : Int)) hm (Ev.bind hBits (Ev.bind ha this))))
    · simp only [gudgeonref01_Parse.l0]
      rw [if_pos (by rw [size_len]; omega), if_pos (by omega), hb, if_neg (by omega), decide_eq_false (by omega)]
    · simp only [gudgeonref01_Parse.j2]
      rw [if_neg (by decide)]
      congr 1
      funext t
      rw [if_pos (by omega), if_pos (by rw [size_len]; omega), hb, Int.emod_eq_of_lt (a := (c.toNat : Int) - 48) (by omega) (by omega)]
      congr 1
      funext u
      congr 1
      funext z
      rw [w64 (by omega) (by omega)]
      rfl
theorem refParse_ev (s : ByteArray) (hsz : s.size ≤ 1000000000) : Ev (fun k => gudgeonref01_Parse.f k s) (parseR s.data.toList) := by
  have hl := size_len s
  have hj : Ev (fun k => gudgeonref01_Parse.j0 k s true) ([], 8) := by
    refine Ev.step (f := fun _ => some _) (fun k => ?_) (Ev.now _)
    simp only [gudgeonref01_Parse.j0]
    rfl
  unfold parseR
  by_cases h1 : s.data.toList = []
  · rw [if_pos h1]
    refine Ev.congr (fun k => ?_) hj
    unfold gudgeonref01_Parse.f
    rw [if_pos ((toList_nil s).2 h1)]
  rw [if_neg h1]
  have h1' : ¬ s.toList = ([] : List UInt8) := fun z => h1 ((toList_nil s).1 z)
  by_cases h2 : 2000 < s.data.toList.length
  · rw [if_pos h2]
    refine Ev.congr (fun k => ?_) hj
    unfold gudgeonref01_Parse.f
    rw [if_neg h1', if_pos (by omega)]
  rw [if_neg h2]
  obtain ⟨c, r, hcr⟩ : ∃ c r, s.data.toList = c :: r := by
    cases h : s.data.toList with
    | nil => exact absurd h h1
    | cons c r => exact ⟨c, r, rfl⟩
  have hb : bt s 0 = (c.toNat : Int) := by
    have := bt_nat s 0 (by rw [hcr]; simp)
    simp only [hcr, List.getElem_cons_zero] at this
    exact this
  have hpos : 0 < s.data.toList.length := by rw [hcr]; simp
  have hmain := rparse_l0 s (by omega) s.data.toList.length 0 0 (by omega) (by omega) (by rw [Nat.mul_zero, p2_zero]; omega)
  rw [List.drop_zero, bits_zero] at hmain
  have hj2 : Ev (fun k => gudgeonref01_Parse.j0 k s false) (if s.data.toList.all isD then (dig (decV 0 s.data.toList), 0) else ([], 8)) := by
    refine Ev.step (fun k => ?_) hmain
    simp only [gudgeonref01_Parse.j0]
    rw [if_neg (by decide)]
    rfl
  by_cases hc : c = 48
  · subst hc
    by_cases hlen : s.data.toList.length = 1
    · have hr : r = [] := by rw [hcr] at hlen; simpa using hlen
      rw [if_neg (by rw [hcr, hr]; simp)]
      refine Ev.congr (fun k => ?_) hj2
      unfold gudgeonref01_Parse.f
      rw [if_neg h1', if_neg (by omega), if_pos (by omega), hb, if_pos (by rfl), decide_eq_false (by omega)]
    · have hr : r ≠ [] := by intro h; rw [hcr, h] at hlen; simp at hlen
      rw [if_pos (by rw [hcr]; exact ⟨rfl, by simp [hr]⟩)]
      refine Ev.congr (fun k => ?_) hj
      unfold gudgeonref01_Parse.f
      rw [if_neg h1', if_neg (by omega), if_pos (by omega), hb, if_pos (by rfl), decide_eq_true (by omega)]
  · have hn : ¬ (c.toNat : Int) = 48 := fun h => hc (by rw [← UInt8.toNat_inj, show c.toNat = 48 by omega]; rfl)
    rw [if_neg (by rw [hcr]; simp [hc])]
    refine Ev.congr (fun k => ?_) hj2
    unfold gudgeonref01_Parse.f
    rw [if_neg h1', if_neg (by omega), if_pos (by omega), hb, if_neg hn]
end Go.Proofs.YtlfpnohpcemkgaaDoor.V
/- The law NatTexts, in plain Lean. -/
namespace Go.Proofs.YtlfpnohpcemkgaaDoor.S
set_option linter.unusedVariables false
set_option linter.unusedSimpArgs false
open Go.RowKit Go.Proofs.YtlfpnohpcemkgaaDoor.V Go.Proofs.YtlfpnohpcemkgaaDoor.PA Go.Proofs.YtlfpnohpcemkgaaDoor.H Go.Proofs.YtlfpnohpcemkgaaDoorW.PrintWords Go.Proofs.YtlfpnohpcemkgaaDoorW.PrintLast Go.Proofs.YtlfpnohpcemkgaaDoorW.PrintMore

theorem parseR_length (l : List UInt8) (h : l.length ≤ 2000) : (parseR l).1.length ≤ 1000000000 := by
  by_cases he : (parseR l).2 = 0
  · obtain ⟨h1, h2, h3⟩ := text_parse l he
    rw [h2]
    simp only []
    have key : ∀ (l : List UInt8) (v : Int) (m : Nat), l.all isD = true → 0 ≤ v → v < pw m → decV v l < pw (m + l.length) := by
      intro l
      induction l with
      | nil => intro v m _ _ h; exact h
      | cons c l ih =>
        intro v m ha h0 h1
        rw [List.all_cons, Bool.and_eq_true] at ha
        have hc : 48 ≤ c.toNat ∧ c.toNat ≤ 57 := by have := ha.1; unfold isD at this; simpa using this
        have := ih (v * 10 + (c.toNat - 48)) (m + 1) ha.2 (by omega) (by rw [pw_succ]; omega)
        simp only [decV, List.length_cons]
        rw [show m + (l.length + 1) = m + 1 + l.length by omega]
        exact this
    have hall : l.all isD = true := by
      unfold parseR at he
      split at he
      · simp at he
      · split at he
        · simp at he
        · split at he
          · simp at he
          · split at he
            · assumption
            · simp at he
    have := key l 0 0 hall (by omega) (by rw [pw_zero]; omega)
    have := dig_length_le h3 this
    omega
  · rw [parse_err l he]; simp
theorem NatTexts : gudgeonlaw01_NatTexts.Pure := by
  intro a s _ _ wa hss
  have ha := lim_wf wa
  have hsz := size_len s
  refine Ev.rounds ?_
  refine Ev.congr (fun k => rfl) (Ev.bind awake_ev (evP rfl ?_))
  have hno : Ev (fun k => gudgeonlaw01_NatTexts.j0 k a s true true) true := Ev.step (f := fun _ => some true) (fun k => rfl) (Ev.now _)
  by_cases hf : (a.length : Int) > 24
  · exact evP hf hno
  refine evN hf ?_
  by_cases hf2 : (s.size : Int) > 200
  · rw [decide_eq_true hf2]; exact hno
  rw [decide_eq_false hf2]
  have sa : SZ a := by unfold SZ; omega
  refine Ev.step (fun k => by rw [gudgeonlaw01_NatTexts.j0]) ?_
  refine evN (by decide) ?_
  refine Ev.bind (parse_ev s (by omega)) ?_
  refine Ev.bind (refParse_ev s (by omega)) ?_
  refine Ev.bind (same_self _ _ rfl (parseR_length _ (by omega))) ?_
  refine evP rfl (evP rfl ?_)
  refine Ev.bind (text_ev a ha (by omega)) ?_
  refine Ev.bind (refText_ev a ha sa) ?_
  exact evR (by simp)
end Go.Proofs.YtlfpnohpcemkgaaDoor.S
/- The plain statement of the law NatTexts. -/
namespace Go.Proofs.YtlfpnohpcemkgaaDoor.Pure
open Go.Proofs.YtlfpnohpcemkgaaDoor.PA
theorem NatTexts : gudgeonlaw01_NatTexts.Pure := Go.Proofs.YtlfpnohpcemkgaaDoor.S.NatTexts
end Go.Proofs.YtlfpnohpcemkgaaDoor.Pure
/- The law NatTexts of package gudgeonlaw01 returns true and leaves its arguments as they were, for every input that can be read as data; the library's tables that the row lists read as the program's text lays them, to which the card ties them. -/
namespace Go.Proofs.YtlfpnohpcemkgaaDoor.natTexts
open Go.ChangeShapes Go.WideShapes Go.ChangeAt Go.RowKit
open Go.ChangeMaps (open_string shut_string)
set_option linter.unusedVariables false
theorem own : ownKnob Tryd.prog.godebug = none := by kernel_rfl
theorem laidOut : laidOutB Tryd.prog = true := by kernel_rfl
def IsRow (k : IntKind) (w : World) (a : Option Addr) (len cap : Nat) (zs : List Int) : Prop :=
  (a = none ∧ len = 0 ∧ cap = 0 ∧ zs = []) ∨
  ∃ x, a = some x ∧ len ≤ cap ∧ cap ≤ maxLen ∧ zs.length = cap ∧ (∀ i, i < zs.length → w.cell? (x.add i) = some (.int k (zs.getD i 0))) ∧ ∀ n ∈ zs, (Lit.int k n).wf = true
noncomputable def laidWorld (os : Os) : World :=
  let w0 := World.holding Tryd.prog os ⟨#[], #[], []⟩
  let put (h : Array Obj) (g : Nat) (cs : Array Value) : Array Obj := h.modify g fun
    | .cells _ t frozen => .cells cs t frozen
    | o => o
  let h0 := w0.heap
  let h1 := put h0 1 #[.int .u8 128, .int .u8 191, .int .u8 160, .int .u8 191, .int .u8 128, .int .u8 159, .int .u8 144, .int .u8 191, .int .u8 128, .int .u8 143, .int .u8 0, .int .u8 0, .int .u8 0, .int .u8 0, .int .u8 0, .int .u8 0, .int .u8 0, .int .u8 0, .int .u8 0, .int .u8 0, .int .u8 0, .int .u8 0, .int .u8 0, .int .u8 0, .int .u8 0, .int .u8 0, .int .u8 0, .int .u8 0, .int .u8 0, .int .u8 0, .int .u8 0, .int .u8 0]
  let h2 := put h1 0 ((Go.Pinned.utf8FirstZ.map fun (n : Nat) => Value.int .u8 (n : Int)).toArray)
  { w0 with heap := h2 }
theorem laidWorld_met (os : Os) (args : Array Value) : laidMetH Tryd.prog Rows.natTextsRow.laid ((laidWorld os).forCall (fun _ _ => 0) ⟨#[], args, []⟩).memory :=
  (LaidIn.of_run (P := Tryd.prog) (l := Rows.natTextsRow.laid) [1, 0] 8 (by kernel_rfl) (by kernel_rfl) (by kernel_rfl) (by kernel_rfl)).met
set_option maxRecDepth 100000 in
theorem lifted (os : Os) (started : os.Started) (H : Type) (enc : TypeId × Value → H) :
    ReturnsInHanded {} Tryd.checked os 4 .any (fun w args => (Rows.natTextsSpec.pre enc Tryd.prog Tryd.f4 Rows.natTextsRow.domain false w args ∧ laidMetH Tryd.prog Rows.natTextsRow.laid w) ∧ sizedMet enc Tryd.prog Tryd.f4 (OpenSpec.ofChange Rows.natTextsSpec) false w args) (Rows.natTextsSpec.post enc Tryd.prog Tryd.f4 false true false false) := by
  refine returnsInHanded_of_change_and (C := Tryd.checked) (X := fun w _ => laidMetH Tryd.prog Rows.natTextsRow.laid w) (fun _ _ _ hh h => h.of_heap hh) own started (by kernel_rfl) Tryd.func4
    (ChangeSpec.witness_at (enc := enc) (C := Tryd.checked) (os := os) (X := fun w _ => laidMetH Tryd.prog Rows.natTextsRow.laid w) false (laidWorld os) #[.slice none 0 0, .string ByteArray.empty] 8 rfl (by kernel_rfl) (by kernel_rfl) (by kernel_rfl) (by kernel_rfl) (by kernel_rfl) (laidWorld_met os _)) ?_
  intro W base args ds gs before hval0 hW hcnd hsz0 hL _
  have hsz : (DataW.weightsEach Tryd.prog (Tryd.f4.params.toList ++ Rows.natTextsSpec.plain.varTypes Tryd.prog) (ds ++ gs)).all (· ≤ reachBytes) = true := hsz0
  have hval : ∀ (j : Nat) t v, Tryd.f4.params[j]? = some t → args[j]? = some v → Value.okWide Tryd.prog W .any base t v := hval0
  have hW' := hW
  obtain ⟨p, q, hA0, hV, rfl, hfz, hnd⟩ := hW
  have hA : DataW.TrodAll enc Tryd.prog W 0 (fun _ => true) true Tryd.f4.params.toList args.toList ds p := hA0
  rw [Tryd.params4] at hA hval hsz
  obtain ⟨v0, vs0, d0, ds0, p0, q0, hargs, rfl, rfl, h0, r0⟩ := trodAll_cons hA
  obtain ⟨v1, vs1, d1, ds1, p1, q1, rfl, rfl, rfl, h1, r1⟩ := trodAll_cons r0
  obtain ⟨rfl, rfl, rfl⟩ := trodAll_nil r1
  obtain rfl : args = #[v0, v1] := by cases args; simp_all
  obtain ⟨rfl, rfl⟩ := trodVars_none hV
  obtain ⟨a0, len0, cap0, rfl⟩ := okWide_slice Tryd.underlying22 (hval 0 22 v0 rfl rfl)
  have k0 := h0
  have lt0 : ∀ x ∈ p0, x.block < W.heap.size := by obtain ⟨m, hm⟩ := k0; exact DataW.trod_lt m _ _ _ hm
  obtain ⟨z0, w0⟩ : ∃ zs, IsRow .u32 W a0 len0 cap0 zs := by
    obtain ⟨fuel, hf⟩ := h0
    rcases open_ints Tryd.underlying22 Tryd.underlying43 (by kernel_rfl) hf with ⟨hcs, _⟩ | ⟨x, l, c, zs, hcs, _, hl, hm, hz, _, hcell, hwz⟩
    · simp [Value.cells] at hcs
      obtain ⟨rfl, rfl, rfl⟩ := hcs
      exact ⟨[], .inl ⟨rfl, rfl, rfl, rfl⟩⟩
    · simp [Value.cells] at hcs
      obtain ⟨rfl, rfl, rfl⟩ := hcs
      exact ⟨zs, .inr ⟨_, rfl, hl, hm, by simpa using hz, hcell, hwz⟩⟩
  have y0 : len0 * 4 ≤ 140737488351232 := Go.Proofs.YtlfpnohpcemkgaaDoorW.PrintWords.sized_ints hsz (j := 0) (t := 22) rfl rfl Tryd.underlying22 Tryd.underlying43 (by kernel_rfl) (by kernel_rfl) h0
  obtain ⟨a1, rfl, rfl, rfl, y1⟩ := open_string Tryd.underlying9 (hval 1 9 v1 rfl rfl) h1
  have w1 : a1.size ≤ 140737488351232 := by
    have z := sized_string hsz (j := 1) (t := 9) rfl rfl
    rw [Array.length_toList] at z
    exact z
  clear hA0 hval0 hsz0 hsz
  refine (PA.gudgeonlaw01_NatTexts.walk Pure.NatTexts a0 len0 cap0 z0 a1 W w0 y0 w1).mono fun e W' ⟨he, bel⟩ => ?_
  subst he
  exact ⟨_, rfl, _, _, _, [], _, [], hW', trodAll_mk1 (shut_bool Tryd.underlying4 _), (trodAll_cons_mk (Below.trod laidOut (by kernel_rfl) (of_decide_eq_true (by kernel_rfl)) k0 bel lt0) (trodAll_cons_mk (shut_string Tryd.underlying9 y1) trodAll_mk0)), rfl, bel.frame _, fun h => by cases h⟩
theorem over : Rows.natTextsRow.holds Tryd.pinned (OpenSpec.ofChange Rows.natTextsSpec) :=
  OpenClaim.holds_of_wide 4 Tryd.f4 rfl rfl rfl rfl rfl rfl rfl ⟨rfl, rfl, rfl, rfl, rfl⟩ rfl rfl rfl rfl rfl (by kernel_rfl) Tryd.func4 (by kernel_rfl)
    (of_decide_eq_true (by kernel_rfl)) (by unfold Func.isWrapper; first | (rw [if_pos (by decide +kernel)]; kernel_rfl) | (rw [if_neg (by decide +kernel)]; exact ⟨rfl, rfl⟩))
    (fun os started H enc _ => lifted os started H enc)
theorem carded : Rows.NatTextsCardSaid :=
  Claim7.holds_tied_plain_at .later [] [.data, .pinned] true (true, "dbf7fe588360fdfb41ef3d3495ab37953e16fc13eed55bf566d1a048127c9ca8") false
    over (fun _ h => by cases h) (by kernel_rfl) (fun _ h => by cases h) natTexts_row_tie rfl ⟨rfl, rfl⟩ (by kernel_rfl) rfl
    (fun f fn hf hfn => by
      obtain rfl : f = 4 := Option.some.inj ((show Tryd.prog.funcNamed "gudgeon/gudgeonlaw01.NatTexts" = some 4 by kernel_rfl).symm.trans hf) |>.symm
      obtain rfl : fn = Tryd.f4 := (Option.some.inj (Tryd.func4.symm.trans hfn)).symm
      exact ⟨by kernel_rfl, fun j t ht => by
        rw [Tryd.params4] at ht
        have hm := Array.mem_of_getElem? ht
        simp only [List.mem_toArray, List.mem_cons, List.not_mem_nil, or_false] at hm
        rcases hm with rfl | rfl
        · exact (show Tryd.prog.wantsStandIn 22 = false by kernel_rfl)
        · exact (show Tryd.prog.wantsStandIn 9 = false by kernel_rfl)⟩)
    (by kernel_rfl)
end Go.Proofs.YtlfpnohpcemkgaaDoor.natTexts
namespace Go.Proofs.YtlfpnohpcemkgaaDoor
/-- The card, under a short name, for the claim. -/
theorem natTexts_card : Rows.NatTextsCardSaid := natTexts.carded
end Go.Proofs.YtlfpnohpcemkgaaDoor
