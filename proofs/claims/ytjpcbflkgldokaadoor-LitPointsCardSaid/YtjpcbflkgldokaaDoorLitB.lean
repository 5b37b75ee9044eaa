import Derived.Test.YtjpcbflkgldokaaDoorLitA
import Derived.Test.YtjpcbflkgldokaaDoorPAx4
/- lit's LitPoints, as a plain statement: the reference reads a literal as escaped does. -/
namespace Go.Proofs.YtjpcbflkgldokaaDoor.S
set_option linter.unusedVariables false
set_option linter.unusedSimpArgs false
open Go.RowKit Go.Proofs.YtjpcbflkgldokaaDoor.PA Go.Proofs.YtjpcbflkgldokaaDoor.H Go.Proofs.YtjpcbflkgldokaaDoorW.PrintWords Go.Proofs.YtjpcbflkgldokaaDoorW.PrintLast

theorem digit_all : ∀ c : Fin 256, gudgeonref07_Digit.f 20 (c.val : Int) = some (hexv (UInt8.ofNat c.val)) := by decide +kernel
theorem digit_ev (c : UInt8) (k : Nat) (hk : 20 ≤ k) : gudgeonref07_Digit.f k (c.toNat : Int) = some (hexv c) := by
  have h := digit_all ⟨c.toNat, c.toNat_lt⟩
  simp only [UInt8.ofNat_toNat] at h
  exact at_rounds (fun k => gudgeonref07_Digit.mono _ k) hk h
theorem digits_l0 (s : ByteArray) (hL : s.data.toList.length ≤ 5) (d : Nat) : ∀ (i : Nat) (n : Int), i + d = s.data.toList.length → 0 ≤ n → n < 16 ^ i →
    Ev (fun k => gudgeonref07_digits.l0 k s n (i : Int)) (fin s.data.toList (numF n (s.data.toList.drop i))) := by
  induction d with
  | zero =>
    intro i n hi h0 hn
    refine Ev.step (f := fun _ => some (fin s.data.toList (numF n (s.data.toList.drop i)))) (fun k => ?_) (Ev.now _)
    simp only [gudgeonref07_digits.l0]
    rw [if_neg (by rw [size_len]; omega), List.drop_eq_nil_of_le (by omega), show numF n [] = n from rfl]
    simp only [toList_nil]
    unfold fin
    split
    · rfl
    · by_cases hb : n > 196607
      · rw [if_pos hb, if_pos hb]
      · rw [if_neg hb, if_neg hb]
  | succ d ih =>
    intro i n hi h0 hn
    have hlt : i < s.data.toList.length := by omega
    have hc := hexv_lt s.data.toList[i]
    have h16 : (16 : Int) ^ i ≤ 16 ^ 4 := by
      have : i ≤ 4 := by omega
      exact_mod_cast Nat.pow_le_pow_right (n := 16) (by omega) this
    have hdrop : s.data.toList.drop i = s.data.toList[i] :: s.data.toList.drop (i + 1) := List.drop_eq_getElem_cons hlt
    by_cases hneg : hexv s.data.toList[i] < 0
    · refine ⟨21, fun k hk => ?_⟩
      obtain ⟨k, rfl⟩ : ∃ m, k = m + 1 := ⟨k - 1, by omega⟩
      simp only [gudgeonref07_digits.l0]
      rw [if_pos (by rw [size_len]; omega), if_pos (by omega), bt_nat s i hlt, digit_ev _ _ (by omega)]
      simp only [Option.bind_some]
      rw [if_pos hneg, hdrop]
      simp only [numF]
      rw [if_pos hneg]
      unfold fin
      split
      · rfl
      · rw [if_neg (by omega)]
    · have hpow : (16 : Int) ^ (i + 1) = 16 ^ i * 16 := Int.pow_succ ..
      obtain ⟨K, hK⟩ := ih (i + 1) (16 * n + hexv s.data.toList[i]) (by omega) (by omega) (by rw [hpow]; omega)
      refine ⟨max K 20 + 1, fun k hk => ?_⟩
      obtain ⟨k, rfl⟩ : ∃ m, k = m + 1 := ⟨k - 1, by omega⟩
      simp only [gudgeonref07_digits.l0]
      rw [if_pos (by rw [size_len]; omega), if_pos (by omega), bt_nat s i hlt, digit_ev _ _ (by omega)]
      simp only [Option.bind_some]
      rw [if_neg hneg, hdrop]
      simp only [numF]
      rw [if_neg hneg, w64 (x := n * 16) (by omega) (by omega), w64 (by omega) (by omega), w64 (by omega) (by omega), Int.mul_comm n 16]
      exact hK k (by omega)
theorem digits_ev (s : ByteArray) (l : List UInt8) (hs : s.data.toList = l) (hL : l.length ≤ 5) : Ev (fun k => gudgeonref07_digits.f k s) (num l) := by
  subst hs
  have := digits_l0 s hL s.data.toList.length 0 0 (by omega) (by omega) (by simp)
  simpa [gudgeonref07_digits.f, fin, num] using this
theorem ext_mid (s : ByteArray) (a b : Nat) : (s.extract a b).data.toList = (s.data.toList.drop a).take (b - a) := Lib.extract_data s a b
theorem getElem_drop_ (l : List UInt8) (i j : Nat) (h : j < (l.drop i).length) : ∃ h', (l.drop i)[j] = l[i + j]'h' := by
  rw [List.length_drop] at h
  exact ⟨by omega, by simp⟩
/-- Where a bracket that closes stands inside, there is no number. -/
theorem num_bad (l : List UInt8) (h : (125 : UInt8) ∈ l) : num l = -1 := by
  have key : ∀ (l : List UInt8), (125 : UInt8) ∈ l → ∀ n, 0 ≤ n → numF n l = -1 := by
    intro l
    induction l with
    | nil => intro h; cases h
    | cons c l ih =>
      intro h n hn
      simp only [numF]
      by_cases hc : hexv c < 0
      · rw [if_pos hc]
      · rw [if_neg hc]
        rcases List.mem_cons.1 h with rfl | h
        · exact absurd (show hexv 125 < 0 by decide) hc
        · exact ih h _ (by omega)
  unfold num
  rw [key l h 0 (by omega)]
  split
  · rfl
  · rw [if_neg (by decide)]
theorem num_brace (l : List UInt8) (h : (123 : UInt8) ∈ l) : num l = -1 := by
  have key : ∀ (l : List UInt8), (123 : UInt8) ∈ l → ∀ n, 0 ≤ n → numF n l = -1 := by
    intro l
    induction l with
    | nil => intro h; cases h
    | cons c l ih =>
      intro h n hn
      simp only [numF]
      by_cases hc : hexv c < 0
      · rw [if_pos hc]
      · rw [if_neg hc]
        rcases List.mem_cons.1 h with rfl | h
        · exact absurd (show hexv 123 < 0 by decide) hc
        · exact ih h _ (by omega)
  unfold num
  rw [key l h 0 (by omega)]
  split
  · rfl
  · rw [if_neg (by decide)]
theorem indexByte_get (l : List UInt8) (c : UInt8) (n : Nat) (h : Lib.indexByte l c = (n : Int)) : ∃ h', l[n]'h' = c := by
  induction l generalizing n with
  | nil => simp [Lib.indexByte] at h
  | cons b l ih =>
    simp only [Lib.indexByte] at h
    split at h
    · rename_i hb
      obtain rfl : n = 0 := by omega
      exact ⟨by simp, by simpa using hb⟩
    · split at h
      · omega
      · rename_i h2
        simp only [beq_iff_eq] at h2
        have := indexByte_range l c
        obtain ⟨m, rfl⟩ : ∃ m, n = m + 1 := ⟨n - 1, by omega⟩
        obtain ⟨h', e⟩ := ih m (by omega)
        exact ⟨by simp; omega, by simpa using e⟩
theorem indexByte_le (l : List UInt8) (c : UInt8) (n : Nat) (hn : n < l.length) (h : l[n] = c) : 0 ≤ Lib.indexByte l c ∧ Lib.indexByte l c ≤ n := by
  induction l generalizing n with
  | nil => simp at hn
  | cons b l ih =>
    simp only [Lib.indexByte]
    split
    · omega
    · rename_i hb
      cases n with
      | zero => simp at h; simp [h] at hb
      | succ n =>
        have := ih n (by simpa using hn) (by simpa using h)
        rw [if_neg (by simp only [beq_iff_eq]; omega)]
        omega
theorem take2 (l : List UInt8) (i : Nat) (h : i + 1 < l.length) : (l.drop i).take 2 = [l[i], l[i + 1]] := by
  have h0 : i < l.length := by omega
  rw [List.drop_eq_getElem_cons h0, List.drop_eq_getElem_cons h]
  rfl
theorem bt_drop (s : ByteArray) (m : List UInt8) (a q : Nat) (hm : s.data.toList.drop a = m) (hq : q < m.length) : bt s ((a + q : Nat) : Int) = ((m[q]).toNat : Int) := by
  subst hm
  have hl : a + q < s.data.toList.length := by rw [List.length_drop] at hq; omega
  exact (bt_nat s (a + q) hl).trans (congrArg (fun b : UInt8 => (b.toNat : Int)) (List.getElem_drop (h := hq)).symm)
theorem u8_eq {b c : UInt8} (h : (b.toNat : Int) = (c.toNat : Int)) : b = c := UInt8.toNat_inj.1 (by omega)
section
variable (s : ByteArray) (hs : s.size ≤ 10000000000) (i : Nat) (hi : i < s.data.toList.length)
/-- What is told where nothing is written by its number. -/
def plainR : Int × Int := (((s.data.toList[i]'hi).toNat : Int), (i : Int) + 1)
include hs in
theorem j4_false : Ev (fun k => gudgeonref07_next.j4 k s (i : Int) false) (plainR s i hi) := by
  have hlen : s.size = s.data.toList.length := Lib.size_eq s
  have hb := (s.data.toList[i]'hi).toNat_lt
  refine Ev.step (f := fun _ => some (plainR s i hi)) (fun k => ?_) (Ev.now _)
  simp only [gudgeonref07_next.j4]
  rw [if_neg (by decide), if_pos (by omega), if_pos (by omega), bt_nat s i hi, w64 (by omega) (by omega), w64 (by omega) (by omega)]
  rfl
include hs in
theorem j4_true (h6 : i + 6 ≤ s.data.toList.length) :
    Ev (fun k => gudgeonref07_next.j4 k s (i : Int) true) (if num ((s.data.toList.drop (i + 2)).take 4) ≥ 0 then (num ((s.data.toList.drop (i + 2)).take 4), (i : Int) + 6) else plainR s i hi) := by
  have hlen : s.size = s.data.toList.length := Lib.size_eq s
  have hb := (s.data.toList[i]'hi).toNat_lt
  have e : (s.extract (i + 2) (i + 6)).data.toList = (s.data.toList.drop (i + 2)).take 4 := by rw [ext_mid]; congr 1; omega
  obtain ⟨K, hK⟩ := digits_ev (s.extract (i + 2) (i + 6)) _ e (by rw [List.length_take]; omega)
  refine ⟨K + 1, fun k hk => ?_⟩
  obtain ⟨k, rfl⟩ : ∃ m, k = m + 1 := ⟨k - 1, by omega⟩
  have e1 : gudgeonref07_digits.f k (s.extract (i + 2) (i + 6)) = some (num ((s.data.toList.drop (i + 2)).take 4)) := hK k (by omega)
  simp only [gudgeonref07_next.j4, if_true]
  rw [w64 (x := (i : Int) + 2) (by omega) (by omega), w64 (x := (i : Int) + 6) (by omega) (by omega), if_pos (by omega), if_pos (by omega), if_pos (by omega)]
  rw [show ((i : Int) + 2).toNat = i + 2 by omega, show ((i : Int) + 6).toNat = i + 6 by omega, e1]
  simp only [Option.bind_some]
  by_cases hn : num ((s.data.toList.drop (i + 2)).take 4) ≥ 0
  · rw [if_pos hn, if_pos hn]
  · rw [if_neg hn, if_neg hn, if_pos (by omega), if_pos (by omega), bt_nat s i hi, w64 (by omega) (by omega), w64 (by omega) (by omega)]
    rfl
/-- Four digits, or none. -/
def fourR : Int × Int :=
  if i + 6 ≤ s.data.toList.length ∧ (s.data.toList.drop i).take 2 = [92, 117] ∧ num ((s.data.toList.drop (i + 2)).take 4) ≥ 0 then (num ((s.data.toList.drop (i + 2)).take 4), (i : Int) + 6) else plainR s i hi
include hs in
theorem j3_ev : Ev (fun k => gudgeonref07_next.j3 k s (i : Int)) (fourR s i hi) := by
  have hlen : s.size = s.data.toList.length := Lib.size_eq s
  unfold fourR
  by_cases h6 : i + 6 ≤ s.data.toList.length
  · have ht := take2 s.data.toList i (by omega)
    have hb0 : bt s (i : Int) = ((s.data.toList[i]).toNat : Int) := bt_nat s i hi
    have hb1 : bt s ((i : Int) + 1) = ((s.data.toList[i + 1]).toNat : Int) := bt_nat s (i + 1) (by omega)
    by_cases h0 : s.data.toList[i] = 92
    · by_cases h1 : s.data.toList[i + 1] = 117
      · rw [h0, h1] at ht
        refine Ev.step (f := fun k => gudgeonref07_next.j4 k s (i : Int) true) (fun k => ?_) ?_
        · simp only [gudgeonref07_next.j3]
          rw [w64 (x := (i : Int) + 6) (by omega) (by omega), if_pos (by omega), if_pos (by omega), if_pos (by omega), hb0, h0, if_pos (by decide), w64 (x := (i : Int) + 1) (by omega) (by omega), if_pos (by omega), if_pos (by omega), hb1, h1]
          rfl
        · have := j4_true s hs i hi h6
          simp only [h6, ht, true_and]
          exact this
      · refine Ev.step (f := fun k => gudgeonref07_next.j4 k s (i : Int) false) (fun k => ?_) ?_
        · have hne : (((s.data.toList[i + 1]).toNat : Int) == 117) = false := by
            simp only [beq_eq_false_iff_ne, ne_eq]
            intro e
            exact h1 (u8_eq (c := 117) (e.trans rfl))
          simp only [gudgeonref07_next.j3]
          rw [w64 (x := (i : Int) + 6) (by omega) (by omega), if_pos (by omega), if_pos (by omega), if_pos (by omega), hb0, h0, if_pos (by decide), w64 (x := (i : Int) + 1) (by omega) (by omega), if_pos (by omega), if_pos (by omega), hb1, hne]
        · rw [if_neg (by rw [ht]; intro h; exact h1 (List.cons.inj (List.cons.inj h.2.1).2).1)]
          exact j4_false s hs i hi
    · refine Ev.step (f := fun k => gudgeonref07_next.j4 k s (i : Int) false) (fun k => ?_) ?_
      · have hne : ¬ (((s.data.toList[i]).toNat : Int) = 92) := by
          intro e
          exact h0 (u8_eq (c := 92) (e.trans rfl))
        simp only [gudgeonref07_next.j3]
        rw [w64 (x := (i : Int) + 6) (by omega) (by omega), if_pos (by omega), if_pos (by omega), if_pos (by omega), hb0, if_neg hne]
      · rw [if_neg (by rw [ht]; intro h; exact h0 (List.cons.inj h.2.1).1)]
        exact j4_false s hs i hi
  · refine Ev.step (f := fun k => gudgeonref07_next.j4 k s (i : Int) false) (fun k => ?_) ?_
    · simp only [gudgeonref07_next.j3]
      rw [w64 (x := (i : Int) + 6) (by omega) (by omega), if_neg (by omega)]
    · rw [if_neg (fun h => h6 h.1)]
      exact j4_false s hs i hi
/-- The loop over the places of a bracket. -/
theorem loop_ev (hs : s.size ≤ 10000000000) (h3 : i + 3 ≤ s.data.toList.length) (m : List UInt8) (hm : s.data.toList.drop (i + 3) = m) (p : Int) (hpp : Lib.indexByte m 125 = p) (d : Nat) : ∀ q : Nat, q + d = 6 → 1 ≤ q →
    Ev (fun k => gudgeonref07_next.l0 k s (i : Int) (q : Int)) (if (q : Int) ≤ p ∧ p ≤ 5 ∧ num (m.take p.toNat) ≥ 0 then (num (m.take p.toNat), (i : Int) + 4 + p) else fourR s i hi) := by
  have hlen : s.size = s.data.toList.length := Lib.size_eq s
  have hp := indexByte_range m 125
  have hg := indexByte_get m 125
  have hle := indexByte_le m 125
  rw [hpp] at hp hg hle
  have hml : m.length + (i + 3) = s.data.toList.length := by rw [← hm, List.length_drop]; omega
  have ex : ∀ q : Nat, (s.extract (i + 3) (i + 3 + q)).data.toList = m.take q := by
    intro q; rw [ext_mid, hm]; congr 1; omega
  -- on, without a bracket here
  have off : ∀ q : Nat, Ev (fun k => gudgeonref07_next.j3 k s (i : Int)) (fourR s i hi) → (¬ ((q : Int) ≤ p ∧ p ≤ 5 ∧ num (m.take p.toNat) ≥ 0)) → Ev (fun k => gudgeonref07_next.j2 k s (i : Int) (q : Int) false) (if (q : Int) ≤ p ∧ p ≤ 5 ∧ num (m.take p.toNat) ≥ 0 then (num (m.take p.toNat), (i : Int) + 4 + p) else fourR s i hi) := by
    intro q h hn
    rw [if_neg hn]
    refine Ev.step (f := fun k => gudgeonref07_next.j3 k s (i : Int)) (fun k => ?_) h
    simp only [gudgeonref07_next.j2]
    rw [if_neg (by decide)]
  induction d with
  | zero =>
    intro q hq h1
    have hn : ¬ ((q : Int) ≤ p ∧ p ≤ 5 ∧ num (m.take p.toNat) ≥ 0) := by omega
    have hoff := off q (j3_ev s hs i hi) hn
    refine Ev.step (f := fun k => gudgeonref07_next.j2 k s (i : Int) (q : Int) false) (fun k => ?_) hoff
    simp only [gudgeonref07_next.l0]
    rw [if_neg (by omega)]
  | succ d ih =>
    intro q hq h1
    have hw3 : wrap64 ((i : Int) + 3) = (i : Int) + 3 := w64 (by omega) (by omega)
    have HW3 := Aside0.mk hw3
    clear hw3
    have hwq : wrap64 ((i : Int) + 3 + q) = (i : Int) + 3 + q := w64 (by omega) (by omega)
    have HWQ := Aside0.mk hwq
    clear hwq
    by_cases hlt : q < m.length
    · have hbq : bt s ((i : Int) + 3 + q) = ((m[q]).toNat : Int) := by
        have e : (i : Int) + 3 + q = ((i + 3 + q : Nat) : Int) := by omega
        exact (congrArg (bt s) e).trans (bt_drop s m (i + 3) q hm hlt)
      by_cases hc : m[q] = 125
      · have hpq := hle q hlt hc
        obtain ⟨n, rfl⟩ : ∃ n : Nat, p = (n : Int) := ⟨p.toNat, by omega⟩
        obtain ⟨K, hK⟩ := digits_ev (s.extract (i + 3) (i + 3 + q)) _ (ex q) (by rw [List.length_take]; omega)
        obtain ⟨K', hK'⟩ := ih (q + 1) (by omega) (by omega)
        refine ⟨max K K' + 2, fun k hk => ?_⟩
        obtain ⟨k, rfl⟩ : ∃ m, k = m + 2 := ⟨k - 2, by omega⟩
        have e1 : gudgeonref07_digits.f k (s.extract (i + 3) (i + 3 + q)) = some (num (m.take q)) := hK k (by omega)
        simp only [gudgeonref07_next.l0]
        rw [if_pos (by omega), HW3.out, HWQ.out, decide_eq_true (by omega)]
        simp only [gudgeonref07_next.j2, if_true]
        rw [HW3.out, HWQ.out, if_pos (by omega), if_pos (by omega), hbq, hc, if_pos (by decide), if_pos (by omega), if_pos (by omega), if_pos (by omega)]
        rw [show ((i : Int) + 3).toNat = i + 3 by omega, show ((i : Int) + 3 + q).toNat = i + 3 + q by omega, e1]
        simp only [Option.bind_some, Int.toNat_natCast]
        by_cases hnq : n = q
        · subst hnq
          by_cases hv : num (m.take n) ≥ 0
          · rw [if_pos hv, if_pos ⟨by omega, by omega, hv⟩, w64 (x := (i : Int) + 4) (by omega) (by omega), w64 (by omega) (by omega)]
          · rw [if_neg hv, if_neg (fun h => hv h.2.2), w64 (by omega) (by omega)]
            have := hK' k (by omega)
            simp only at this
            rw [if_neg (by omega)] at this
            exact this
        · have hmem : (125 : UInt8) ∈ m.take q := by
            obtain ⟨h', e⟩ := hg n rfl
            rw [← e]
            exact List.mem_take_iff_getElem.2 ⟨n, by omega, rfl⟩
          rw [num_bad _ hmem, if_neg (by decide), if_neg (by omega), w64 (by omega) (by omega)]
          have := hK' k (by omega)
          simp only at this
          rw [if_neg (by omega)] at this
          exact this
      · obtain ⟨K', hK'⟩ := ih (q + 1) (by omega) (by omega)
        have hpq : p ≠ (q : Int) := by
          intro e
          obtain ⟨h', e'⟩ := hg q e
          exact hc e'
        have hne : ¬ (((m[q]).toNat : Int) = 125) := by
          intro e
          exact hc (u8_eq (c := 125) (e.trans rfl))
        refine ⟨K' + 2, fun k hk => ?_⟩
        obtain ⟨k, rfl⟩ : ∃ m, k = m + 2 := ⟨k - 2, by omega⟩
        simp only [gudgeonref07_next.l0]
        rw [if_pos (by omega), HW3.out, HWQ.out, decide_eq_true (by omega)]
        simp only [gudgeonref07_next.j2, if_true]
        rw [HW3.out, HWQ.out, if_pos (by omega), if_pos (by omega), hbq, if_neg hne, w64 (by omega) (by omega)]
        have := hK' k (by omega)
        simp only at this
        have hiff : ((q + 1 : Nat) : Int) ≤ p ↔ (q : Int) ≤ p := by omega
        simp only [hiff] at this
        exact this
    · have hn : ¬ ((q : Int) ≤ p ∧ p ≤ 5 ∧ num (m.take p.toNat) ≥ 0) := fun h => hlt (by exact_mod_cast Int.lt_of_le_of_lt h.1 hp.2)
      have hoff := off q (j3_ev s hs i hi) hn
      refine Ev.step (f := fun k => gudgeonref07_next.j2 k s (i : Int) (q : Int) false) (fun k => ?_) hoff
      simp only [gudgeonref07_next.l0]
      rw [if_pos (by omega), HW3.out, HWQ.out, decide_eq_false (by omega)]
end
theorem w_i1 (i : Nat) (h : i ≤ 10000000000) : wrap64 ((i : Int) + 1) = (i : Int) + 1 := w64 (by omega) (by omega)
theorem w_i2 (i : Nat) (h : i ≤ 10000000000) : wrap64 ((i : Int) + 2) = (i : Int) + 2 := w64 (by omega) (by omega)
/-- The reference's next. -/
theorem next_ev (s : ByteArray) (hs : s.size ≤ 10000000000) (i : Nat) (hi : i < s.data.toList.length) :
    Ev (fun k => gudgeonref07_next.f k s (i : Int)) (if (esc (s.data.toList.drop i)).1 < 0 then plainR s i hi else ((esc (s.data.toList.drop i)).1, (i : Int) + (esc (s.data.toList.drop i)).2)) := by
  have hlen : s.size = s.data.toList.length := Lib.size_eq s
  have hld : (s.data.toList.drop i).length = s.data.toList.length - i := List.length_drop
  have hd2 : (s.data.toList.drop i).drop 2 = s.data.toList.drop (i + 2) := by rw [List.drop_drop]
  have hd3 : (s.data.toList.drop i).drop 3 = s.data.toList.drop (i + 3) := by rw [List.drop_drop]
  -- without the bracket
  have four : (¬ ((s.data.toList.drop i).take 2 = [92, 117] ∧ (s.data.toList.drop (i + 2)).take 1 = [123])) → fourR s i hi = (if (esc (s.data.toList.drop i)).1 < 0 then plainR s i hi else ((esc (s.data.toList.drop i)).1, (i : Int) + (esc (s.data.toList.drop i)).2)) := by
    intro hn
    unfold fourR esc
    rw [hd2, hd3, hld]
    by_cases h2 : (s.data.toList.drop i).take 2 = [92, 117]
    · have h1 : ¬ (s.data.toList.drop (i + 2)).take 1 = [123] := fun h => hn ⟨h2, h⟩
      rw [if_pos h2, if_neg h1]
      by_cases h6 : i + 6 ≤ s.data.toList.length
      · rw [if_neg (show ¬ (s.data.toList.length - i < 6) by omega)]
        by_cases hv : num ((s.data.toList.drop (i + 2)).take 4) ≥ 0
        · rw [if_pos ⟨h6, h2, hv⟩, if_neg (by simp only; omega)]
        · rw [if_neg (fun h => hv h.2.2), if_pos (by simp only; omega)]
      · rw [if_neg (fun h => h6 h.1), if_pos (show s.data.toList.length - i < 6 by omega), if_pos (by decide)]
    · rw [if_neg (fun h => h2 h.2.1), if_neg h2, if_pos (by decide)]
  have j0f : (¬ ((s.data.toList.drop i).take 2 = [92, 117] ∧ (s.data.toList.drop (i + 2)).take 1 = [123])) → Ev (fun k => gudgeonref07_next.j0 k s (i : Int) false) (if (esc (s.data.toList.drop i)).1 < 0 then plainR s i hi else ((esc (s.data.toList.drop i)).1, (i : Int) + (esc (s.data.toList.drop i)).2)) := by
    intro hn
    rw [← four hn]
    refine Ev.step (f := fun k => gudgeonref07_next.j3 k s (i : Int)) (fun k => ?_) (j3_ev s hs i hi)
    simp only [gudgeonref07_next.j0]
    rw [if_neg (by decide)]
  unfold gudgeonref07_next.f
  by_cases hl : i + 2 < s.data.toList.length
  · have ht := take2 s.data.toList i (by omega)
    have ht1 : (s.data.toList.drop (i + 2)).take 1 = [s.data.toList[i + 2]] := by rw [List.drop_eq_getElem_cons hl]; simp
    have hi10 : i ≤ 10000000000 := by omega
    have c0 : (i : Int) + 2 < (s.size : Int) := by omega
    have c1 : (0 : Int) ≤ (i : Int) := by omega
    have c2 : (i : Int) < (s.size : Int) := by omega
    have c3 : (0 : Int) ≤ (i : Int) + 1 := by omega
    have c4 : (i : Int) + 1 < (s.size : Int) := by omega
    have c5 : (0 : Int) ≤ (i : Int) + 2 := by omega
    have hb0 : bt s (i : Int) = ((s.data.toList[i]).toNat : Int) := bt_nat s i hi
    have hb1 : bt s ((i : Int) + 1) = ((s.data.toList[i + 1]'(by omega)).toNat : Int) := bt_nat s (i + 1) (by omega)
    have HB1 := Aside0.mk hb1
    clear hb1
    have hb2 : bt s ((i : Int) + 2) = ((s.data.toList[i + 2]'(by omega)).toNat : Int) := bt_nat s (i + 2) (by omega)
    simp only [if_pos c0, if_pos c1, if_pos c2, if_pos c3, if_pos c4, if_pos c5, w_i1 i hi10, w_i2 i hi10, hb0, HB1.out, hb2]
    clear hb0 HB1 hb2
    by_cases h0 : s.data.toList[i] = 92
    · have e0 : ((s.data.toList[i]).toNat : Int) = 92 := by rw [h0]; rfl
      simp only [if_pos e0]
      by_cases h1 : s.data.toList[i + 1] = 117
      · have e1 : ((s.data.toList[i + 1]).toNat : Int) = 117 := by rw [h1]; rfl
        simp only [if_pos e1]
        by_cases h2 : s.data.toList[i + 2] = 123
        · have e2 : (((s.data.toList[i + 2]).toNat : Int) == 123) = true := by rw [h2]; rfl
          simp only [e2]
          rw [h0, h1] at ht
          rw [h2] at ht1
          refine Ev.step (f := fun k => gudgeonref07_next.l0 k s (i : Int) 1) (fun k => by simp only [gudgeonref07_next.j0, if_true]) ?_
          obtain ⟨p, hpe⟩ : ∃ p, Lib.indexByte (s.data.toList.drop (i + 3)) 125 = p := ⟨_, rfl⟩
          have hlp := loop_ev s i hi hs (by omega) _ rfl p hpe 5 1 (by omega) (by omega)
          have hfp : fourR s i hi = plainR s i hi := by
            unfold fourR
            rw [if_neg]
            intro h
            have hm : (123 : UInt8) ∈ (s.data.toList.drop (i + 2)).take 4 := by
              rw [List.drop_eq_getElem_cons hl, h2]
              simp
            rw [num_brace _ hm] at h
            omega
          have hp := indexByte_range (s.data.toList.drop (i + 3)) 125
          rw [hpe] at hp
          have hres : (if ((1 : Nat) : Int) ≤ p ∧ p ≤ 5 ∧ num ((s.data.toList.drop (i + 3)).take p.toNat) ≥ 0 then (num ((s.data.toList.drop (i + 3)).take p.toNat), (i : Int) + 4 + p) else fourR s i hi) =
              (if (esc (s.data.toList.drop i)).1 < 0 then plainR s i hi else ((esc (s.data.toList.drop i)).1, (i : Int) + (esc (s.data.toList.drop i)).2)) := by
            rw [hfp]
            unfold esc
            rw [hd2, hd3, if_pos ht, if_pos ht1, hpe]
            by_cases hp0 : p < 0
            · rw [if_neg (by omega), if_pos hp0, if_pos (by decide)]
            · rw [if_neg hp0]
              by_cases hp5 : p > 5
              · rw [if_neg (by omega), if_pos hp5, if_pos (by decide)]
              · rw [if_neg hp5]
                by_cases hz : p = 0
                · subst hz
                  rw [if_neg (by omega), if_pos (by simp [num])]
                · by_cases hv : num ((s.data.toList.drop (i + 3)).take p.toNat) ≥ 0
                  · rw [if_pos ⟨by omega, by omega, hv⟩, if_neg (by simp only; omega)]
                    congr 1
                    omega
                  · rw [if_neg (fun h => hv h.2.2), if_pos (by simp only; omega)]
          rw [← hres]
          exact hlp
        · have e2 : (((s.data.toList[i + 2]).toNat : Int) == 123) = false := by
            simp only [beq_eq_false_iff_ne, ne_eq]
            intro e
            exact h2 (u8_eq (c := 123) (e.trans rfl))
          simp only [e2]
          exact j0f (fun h => h2 (by rw [ht1] at h; exact (List.cons.inj h.2).1))
      · have e1 : ¬ ((s.data.toList[i + 1]).toNat : Int) = 117 := by
          intro e
          exact h1 (u8_eq (c := 117) (e.trans rfl))
        simp only [if_neg e1]
        exact j0f (fun h => h1 (by rw [ht] at h; exact (List.cons.inj (List.cons.inj h.1).2).1))
    · have e0 : ¬ ((s.data.toList[i]).toNat : Int) = 92 := by
        intro e
        exact h0 (u8_eq (c := 92) (e.trans rfl))
      simp only [if_neg e0]
      exact j0f (fun h => h0 (by rw [ht] at h; exact (List.cons.inj h.1).1))
  · have c0 : ¬ wrap64 ((i : Int) + 2) < (s.size : Int) := by rw [w64 (by omega) (by omega)]; omega
    simp only [if_neg c0]
    refine j0f (fun h => ?_)
    have := congrArg List.length h.2
    rw [List.length_take, List.length_drop] at this
    simp only [List.length_cons, List.length_nil] at this
    omega
theorem refPoints_l0 (s : ByteArray) (hs : s.size ≤ 10000000000) (d : Nat) : ∀ (i : Nat) (acc : List Int), i ≤ s.data.toList.length → s.data.toList.length - i ≤ d → acc.length ≤ i →
    Ev (fun k => gudgeonref07_Points.l0 k s acc (i : Int)) (acc ++ pts (s.data.toList.drop i)) := by
  have hlen : s.size = s.data.toList.length := Lib.size_eq s
  have stop : ∀ acc : List Int, Ev (fun k => gudgeonref07_Points.l0 k s acc (s.data.toList.length : Int)) (acc ++ pts (s.data.toList.drop s.data.toList.length)) := by
    intro acc
    refine Ev.step (f := fun _ => some (acc ++ pts (s.data.toList.drop s.data.toList.length))) (fun k => ?_) (Ev.now _)
    simp only [gudgeonref07_Points.l0]
    rw [if_neg (by omega), List.drop_eq_nil_of_le (Nat.le_refl _), pts_nil, List.append_nil]
  induction d with
  | zero =>
    intro i acc hi hd ha
    obtain rfl : i = s.data.toList.length := by omega
    exact stop acc
  | succ d ih =>
    intro i acc hi hd ha
    by_cases hlt : i < s.data.toList.length
    · obtain ⟨K, hK⟩ := next_ev s hs i hlt
      have hdr : s.data.toList.drop i = s.data.toList[i] :: s.data.toList.drop (i + 1) := List.drop_eq_getElem_cons hlt
      have hc := pts_cons s.data.toList[i] (s.data.toList.drop (i + 1))
      rw [← hdr] at hc
      by_cases hneg : (esc (s.data.toList.drop i)).1 < 0
      · rw [if_pos hneg] at hc hK
        obtain ⟨K', hK'⟩ := ih (i + 1) (acc ++ [(s.data.toList[i].toNat : Int)]) (by omega) (by omega) (by simp; omega)
        refine ⟨max K K' + 1, fun k hk => ?_⟩
        obtain ⟨k, rfl⟩ : ∃ m, k = m + 1 := ⟨k - 1, by omega⟩
        have e1 : gudgeonref07_next.f k s (i : Int) = some (plainR s i hlt) := hK k (by omega)
        simp only [gudgeonref07_Points.l0]
        rw [if_pos (by omega), e1]
        simp only [Option.bind_some, plainR]
        rw [if_pos (by omega)]
        have := hK' k (by omega)
        rw [hc]
        rw [List.append_assoc] at this
        exact this
      · have hsn := esc_snd _ hneg
        rw [List.length_drop] at hsn
        rw [if_neg hneg] at hc hK
        obtain ⟨n, hn⟩ : ∃ n : Nat, (esc (s.data.toList.drop i)).2 = (n : Int) := ⟨(esc (s.data.toList.drop i)).2.toNat, by omega⟩
        rw [hn, Int.toNat_natCast, List.drop_drop] at hc
        obtain ⟨K', hK'⟩ := ih (i + n) (acc ++ [(esc (s.data.toList.drop i)).1]) (by omega) (by omega) (by simp; omega)
        refine ⟨max K K' + 1, fun k hk => ?_⟩
        obtain ⟨k, rfl⟩ : ∃ m, k = m + 1 := ⟨k - 1, by omega⟩
        have e1 : gudgeonref07_next.f k s (i : Int) = some ((esc (s.data.toList.drop i)).1, (i : Int) + (esc (s.data.toList.drop i)).2) := hK k (by omega)
        simp only [gudgeonref07_Points.l0]
        rw [if_pos (by omega), e1]
        simp only [Option.bind_some]
        rw [if_pos (by omega), hn]
        have := hK' k (by omega)
        rw [hc]
        rw [List.append_assoc] at this
        exact this
    · obtain rfl : i = s.data.toList.length := by omega
      exact stop acc
theorem refPoints_ev (s : ByteArray) (hs : s.size ≤ 10000000000) : Ev (fun k => gudgeonref07_Points.f k s) (pts s.data.toList) :=
  refPoints_l0 s hs s.data.toList.length 0 [] (by omega) (by omega) (by simp)
theorem LitPoints : gudgeonlaw07_LitPoints.Pure := by
  intro s _
  refine Ev.rounds ?_
  unfold gudgeonlaw07_LitPoints.f
  refine Ev.bind awake_ev ?_
  simp only [if_true]
  by_cases h2 : (s.size : Int) > 2000
  · refine Ev.step (f := fun _ => some true) (fun k => ?_) (Ev.now _)
    simp only [gudgeonlaw07_LitPoints.j0]
    rw [if_pos (decide_eq_true h2)]
  · simp only [decide_eq_false h2]
    refine Ev.step (f := fun k => (lit_Points.f k s).bind fun t152 => ((gudgeonref07_Points.f k s).bind fun t155 => ((gudgeonref07_Ints.f k t152 t155).bind fun t158 => (some t158)))) (fun k => ?_) ?_
    · simp only [gudgeonlaw07_LitPoints.j0]
      rw [if_neg (by decide)]
    · have hz : s.size = s.data.toList.length := Lib.size_eq s
      have hl := pts_len s.data.toList
      refine Ev.bind (points_ev s (by omega)) (Ev.bind (refPoints_ev s (by omega)) (Ev.bind (ints_ev _ _ (by omega)) ?_))
      rw [decide_eq_true rfl]
      exact Ev.now _
end Go.Proofs.YtjpcbflkgldokaaDoor.S
