import Derived.Test.YtjpcbflkgldokaaDoorPAx2
import Derived.Test.YtjpcbflkgldokaaDoorPAx3
import Derived.Lib.Strings
import Derived.Lib.Bytealg
/- What lit's functions compute, as plain functions on lists of bytes; and that the printed functions compute it: hex, number, escaped, Points. -/
namespace Go.Proofs.YtjpcbflkgldokaaDoor.S
set_option linter.unusedVariables false
set_option linter.unusedSimpArgs false
open Go.RowKit Go.Proofs.YtjpcbflkgldokaaDoor.PA Go.Proofs.YtjpcbflkgldokaaDoor.H Go.Proofs.YtjpcbflkgldokaaDoorW.PrintWords Go.Proofs.YtjpcbflkgldokaaDoorW.PrintLast

theorem w64 {x : Int} (h0 : -9223372036854775808 ≤ x) (h1 : x ≤ 9223372036854775807) : wrap64 x = x := by unfold wrap64; omega
theorem bt_nat (s : ByteArray) (i : Nat) (h : i < s.data.toList.length) : bt s (i : Int) = ((s.data.toList[i]).toNat : Int) := by
  have h' : i < s.size := by rw [Lib.size_eq]; exact h
  unfold bt
  rw [dif_pos (by simpa using h')]
  rfl
theorem size_len (s : ByteArray) : (s.size : Int) = (s.data.toList.length : Int) := by rw [Lib.size_eq]
theorem toList_nil (s : ByteArray) : (s.toList = ([] : List UInt8)) ↔ s.data.toList = [] := by rw [Lib.toList_data]

/-- A hexadecimal digit's value; -1: it is none. -/
def hexv (c : UInt8) : Int :=
  if 48 ≤ c.toNat ∧ c.toNat ≤ 57 then c.toNat - 48 else if 97 ≤ c.toNat ∧ c.toNat ≤ 102 then c.toNat - 87 else if 65 ≤ c.toNat ∧ c.toNat ≤ 70 then c.toNat - 55 else -1
def numF : Int → List UInt8 → Int
  | n, [] => n
  | n, c :: r => if hexv c < 0 then -1 else numF (16 * n + hexv c) r
def num (l : List UInt8) : Int := if l = [] then -1 else if numF 0 l > 196607 then -1 else numF 0 l
theorem hexv_lt (c : UInt8) : -1 ≤ hexv c ∧ hexv c ≤ 15 := by
  unfold hexv
  have := c.toNat_lt
  split
  · omega
  · split
    · omega
    · split <;> omega
theorem hex_ev (c : UInt8) (k : Nat) (hk : 2 ≤ k) : lit_hex.f k (c.toNat : Int) = some (hexv c) := by
  obtain ⟨k, rfl⟩ : ∃ m, k = m + 2 := ⟨k - 2, by omega⟩
  have hc := c.toNat_lt
  unfold lit_hex.f hexv
  by_cases h1 : 48 ≤ c.toNat ∧ c.toNat ≤ 57
  · rw [if_pos (by omega), if_pos h1, decide_eq_true (by omega)]
    simp only [lit_hex.j0, if_true]
    congr 1; omega
  · rw [if_neg h1]
    have e : (if (c.toNat : Int) ≥ 48 then (lit_hex.j0 (k + 2) c.toNat (decide ((c.toNat : Int) ≤ 57))) else (lit_hex.j0 (k + 2) c.toNat false)) = lit_hex.j0 (k + 2) c.toNat false := by
      split
      · rw [decide_eq_false (by omega)]
      · rfl
    rw [e]
    by_cases h2 : 97 ≤ c.toNat ∧ c.toNat ≤ 102
    · rw [if_pos h2]
      simp only [lit_hex.j0]
      rw [if_neg (by decide), if_pos (by omega), decide_eq_true (by omega)]
      simp only [lit_hex.j1, if_true]
      congr 1; omega
    · rw [if_neg h2]
      have e2 : lit_hex.j0 (k + 2) c.toNat false = lit_hex.j1 (k + 1) c.toNat false := by
        simp only [lit_hex.j0]
        rw [if_neg (by decide)]
        split
        · rw [decide_eq_false (by omega)]
        · rfl
      rw [e2]
      simp only [lit_hex.j1]
      rw [if_neg (by decide)]
      split
      · split
        · rw [if_pos (by omega)]; congr 1; omega
        · rw [if_neg (by omega)]
      · rw [if_neg (by omega)]
/-- What stands behind the loop of number. -/
def fin (l : List UInt8) (x : Int) : Int := if l = [] then -1 else if x > 196607 then -1 else x
theorem numF_neg (r : List UInt8) : ∀ n, 0 ≤ n → -1 ≤ numF n r := by
  induction r with
  | nil => intro n h; simp [numF]; omega
  | cons c r ih =>
    intro n h
    simp only [numF]
    split
    · omega
    · exact ih _ (by omega)
theorem number_l0 (s : ByteArray) (hL : s.data.toList.length ≤ 5) (d : Nat) : ∀ (i : Nat) (n : Int), i + d = s.data.toList.length → 0 ≤ n → n < 16 ^ i →
    Ev (fun k => lit_number.l0 k s n (s.size : Int) (i : Int)) (fin s.data.toList (numF n (s.data.toList.drop i))) := by
  induction d with
  | zero =>
    intro i n hi h0 hn
    refine Ev.step (f := fun _ => some (fin s.data.toList (numF n (s.data.toList.drop i)))) (fun k => ?_) (Ev.now _)
    simp only [lit_number.l0]
    rw [if_neg (by rw [size_len]; omega), List.drop_eq_nil_of_le (by omega), show numF n [] = n from rfl]
    simp only [toList_nil]
    unfold fin
    split
    · rfl
    · by_cases hb : n > 196607
      · rw [if_pos hb, if_pos hb]
      · rw [if_neg hb, if_neg hb]
  | succ d ih =>
    intro i n hi h0 hn
    have hlt : i < s.data.toList.length := by omega
    have hc := hexv_lt s.data.toList[i]
    have h16 : (16 : Int) ^ i ≤ 16 ^ 4 := by
      have : i ≤ 4 := by omega
      exact_mod_cast Nat.pow_le_pow_right (n := 16) (by omega) this
    have hdrop : s.data.toList.drop i = s.data.toList[i] :: s.data.toList.drop (i + 1) := List.drop_eq_getElem_cons hlt
    by_cases hneg : hexv s.data.toList[i] < 0
    · refine ⟨3, fun k hk => ?_⟩
      obtain ⟨k, rfl⟩ : ∃ m, k = m + 3 := ⟨k - 3, by omega⟩
      simp only [lit_number.l0]
      rw [if_pos (by rw [size_len]; omega), if_pos (by omega), if_pos (by rw [size_len]; omega), bt_nat s i hlt, hex_ev _ _ (by omega)]
      simp only [Option.bind_some]
      rw [if_pos hneg, hdrop]
      simp only [numF]
      rw [if_pos hneg]
      unfold fin
      split
      · rfl
      · rw [if_neg (by omega)]
    · have hpow : (16 : Int) ^ (i + 1) = 16 ^ i * 16 := Int.pow_succ ..
      obtain ⟨K, hK⟩ := ih (i + 1) (16 * n + hexv s.data.toList[i]) (by omega) (by omega) (by rw [hpow]; omega)
      refine ⟨max K 2 + 1, fun k hk => ?_⟩
      obtain ⟨k, rfl⟩ : ∃ m, k = m + 1 := ⟨k - 1, by omega⟩
      simp only [lit_number.l0]
      rw [if_pos (by rw [size_len]; omega), if_pos (by omega), if_pos (by rw [size_len]; omega), bt_nat s i hlt, hex_ev _ _ (by omega)]
      simp only [Option.bind_some]
      rw [if_neg hneg, hdrop]
      simp only [numF]
      rw [if_neg hneg, ← hK k (by omega)]
      rw [w64 (x := 16 * n) (by omega) (by omega), w64 (by omega) (by omega), w64 (by omega) (by omega)]
      rfl
theorem number_ev (s : ByteArray) (hL : s.data.toList.length ≤ 5) : Ev (fun k => lit_number.f k s) (num s.data.toList) := by
  have := number_l0 s hL s.data.toList.length 0 0 (by omega) (by omega) (by simp)
  simpa [lit_number.f, fin, num] using this

/-! ### escaped -/
def esc (l : List UInt8) : Int × Int :=
  if l.take 2 = [92, 117] then
    if (l.drop 2).take 1 = [123] then
      if Lib.indexByte (l.drop 3) 125 < 0 then (-1, 0)
      else if Lib.indexByte (l.drop 3) 125 > 5 then (-1, 0)
      else (num ((l.drop 3).take (Lib.indexByte (l.drop 3) 125).toNat), Lib.indexByte (l.drop 3) 125 + 4)
    else if l.length < 6 then (-1, 0) else (num ((l.drop 2).take 4), 6)
  else (-1, 0)
theorem ba_ext {a b : ByteArray} (h : a.data.toList = b.data.toList) : a = b := by
  obtain ⟨⟨a⟩⟩ := a; obtain ⟨⟨b⟩⟩ := b
  simp only at h; rw [h]
theorem cutPrefix_f (a p : ByteArray) : strings_CutPrefix.f a p = some (if a.data.toList.take p.data.toList.length = p.data.toList then (a.extract p.size a.size, true) else (a, false)) := by
  have hp : p.size = p.data.toList.length := Lib.size_eq p
  have ha : a.size = a.data.toList.length := Lib.size_eq a
  unfold strings_CutPrefix.f stringslite_CutPrefix.f stringslite_HasPrefix.f
  by_cases h1 : (a.size : Int) ≥ (p.size : Int)
  · rw [if_pos h1, if_pos (by omega), if_pos (by omega)]
    simp only [Option.bind_some, Int.toNat_natCast]
    rw [Lib.toList_data, Lib.toList_data, Lib.extract_data, List.drop_zero, Nat.sub_zero, hp]
    by_cases h2 : a.data.toList.take p.data.toList.length = p.data.toList
    · rw [if_pos h2, if_pos (beq_iff_eq.2 h2), if_pos (by omega), if_pos (by omega)]
      rfl
    · rw [if_neg h2, if_neg (fun h => h2 (beq_iff_eq.1 h))]
      rfl
  · rw [if_neg h1]
    simp only [Option.bind_some]
    rw [if_neg (by decide), if_neg]
    · rfl
    · intro h
      have := congrArg List.length h
      simp at this
      omega
theorem indexByte_range (l : List UInt8) (c : UInt8) : -1 ≤ Lib.indexByte l c ∧ Lib.indexByte l c < l.length := by
  induction l with
  | nil => simp [Lib.indexByte]
  | cons b l ih =>
    simp only [Lib.indexByte, List.length_cons]
    split
    · omega
    · split <;> omega
theorem cut_f (a : ByteArray) (c : UInt8) (hs : a.size ≤ 140737488351232) : strings_Cut.f a ⟨#[c]⟩ = some (if Lib.indexByte a.data.toList c < 0 then (a, ⟨#[]⟩, false) else (a.extract 0 (Lib.indexByte a.data.toList c).toNat, a.extract ((Lib.indexByte a.data.toList c).toNat + 1) a.size, true)) := by
  have hr := indexByte_range a.data.toList c
  have ha : a.size = a.data.toList.length := Lib.size_eq a
  have h1 : stringslite_Index.f a ⟨#[c]⟩ = some (Lib.indexByte a.data.toList c) := rfl
  have hsz : ((⟨#[c]⟩ : ByteArray).size : Int) = 1 := rfl
  unfold strings_Cut.f stringslite_Cut.f
  rw [h1]
  simp only [Option.bind_some, hsz]
  by_cases h : Lib.indexByte a.data.toList c < 0
  · rw [if_pos h, if_neg (by omega)]; rfl
  · rw [if_neg h, w64 (by omega) (by omega), if_pos (by omega), if_pos (by omega), if_pos (by omega), if_pos (by omega), if_pos (by omega)]
    simp only [Option.bind_some]
    congr 4
    omega
theorem ext_tail (s : ByteArray) (a : Nat) : (s.extract a s.size).data.toList = s.data.toList.drop a := by
  rw [Lib.extract_data, List.take_of_length_le (by rw [List.length_drop, ← Lib.size_eq]; exact Nat.le_refl _)]
theorem ext_head (s : ByteArray) (b : Nat) : (s.extract 0 b).data.toList = s.data.toList.take b := by
  rw [Lib.extract_data, List.drop_zero, Nat.sub_zero]
theorem j0_yes (x : ByteArray) : Ev (fun k => lit_escaped.j0 k x true) (-1, 0) := by
  refine Ev.step (f := fun _ => some (-1, 0)) (fun k => ?_) (Ev.now _)
  simp only [lit_escaped.j0, if_true]
theorem j0_no (x : ByteArray) (l : List UInt8) (hx : x.data.toList = l) (hl : l.length ≤ 5) : Ev (fun k => lit_escaped.j0 k x false) (num l, (l.length : Int) + 4) := by
  subst hx
  refine Ev.step (fun k => ?_) (Ev.bind (f := fun _ t => some (t, (x.data.toList.length : Int) + 4)) (number_ev x hl) (Ev.now _))
  simp only [lit_escaped.j0]
  rw [if_neg (by decide), w64 (by omega) (by rw [size_len]; omega), size_len]
theorem escaped_ev (s : ByteArray) (hs : s.size ≤ 140737488351232) : Ev (fun k => lit_escaped.f k s) (esc s.data.toList) := by
  unfold lit_escaped.f
  have hlen : s.size = s.data.toList.length := Lib.size_eq s
  generalize hl : s.data.toList = l at hlen
  simp only [cutPrefix_f, Option.bind_some, hl]
  have s2 : ((⟨#[92, 117]⟩ : ByteArray).size) = 2 := rfl
  have s1 : ((⟨#[123]⟩ : ByteArray).size) = 1 := rfl
  simp only [s2, s1, List.length_cons, List.length_nil, Nat.zero_add, Nat.reduceAdd]
  unfold esc
  by_cases h1 : l.take 2 = [92, 117]
  · have hl2 : 2 ≤ l.length := by
      have := congrArg List.length h1
      rw [List.length_take] at this
      simp only [List.length_cons, List.length_nil] at this
      omega
    simp only [if_pos h1, if_true]
    obtain ⟨r, hr⟩ : ∃ r, r = s.extract 2 s.size := ⟨_, rfl⟩
    have er : r.data.toList = l.drop 2 := by rw [hr, ext_tail, hl]
    have zr : r.size = l.length - 2 := by rw [Lib.size_eq, er, List.length_drop]
    rw [← hr]
    clear hr
    simp only [er]
    by_cases h2 : (l.drop 2).take 1 = [123]
    · simp only [if_pos h2, if_true]
      obtain ⟨q, hq⟩ : ∃ q, q = r.extract 1 r.size := ⟨_, rfl⟩
      have eq : q.data.toList = l.drop 3 := by rw [hq, ext_tail, er, List.drop_drop]
      have zq : q.size = l.length - 3 := by rw [Lib.size_eq, eq, List.length_drop]
      rw [← hq]
      clear hq
      have hi := indexByte_range (l.drop 3) 125
      rw [List.length_drop] at hi
      simp only [cut_f q 125 (by omega), eq, Option.bind_some]
      generalize Lib.indexByte (l.drop 3) 125 = i at hi
      by_cases h3 : i < 0
      · simp only [if_pos h3, if_neg (show ¬ (false = true) by decide)]
        exact j0_yes _
      · simp only [if_neg h3, if_true]
        obtain ⟨n, rfl⟩ : ∃ n : Nat, i = (n : Int) := ⟨i.toNat, by omega⟩
        simp only [Int.toNat_natCast]
        have ex : (q.extract 0 n).data.toList = (l.drop 3).take n := by rw [ext_head, eq]
        have zx : (q.extract 0 n).size = n := by rw [Lib.size_eq, ex, List.length_take, List.length_drop]; omega
        by_cases h4 : (n : Int) > 5
        · have hd : decide (((q.extract 0 n).size : Int) > 5) = true := decide_eq_true (by rw [zx]; exact h4)
          simp only [if_pos h4, hd]
          exact j0_yes _
        · have hd : decide (((q.extract 0 n).size : Int) > 5) = false := decide_eq_false (by rw [zx]; exact h4)
          simp only [if_neg h4, hd]
          have := j0_no (q.extract 0 n) _ ex (by rw [List.length_take]; omega)
          rw [show ((l.drop 3).take n).length = n by rw [List.length_take, List.length_drop]; omega] at this
          exact this
    · simp only [if_neg h2, if_neg (show ¬ (false = true) by decide)]
      by_cases h3 : l.length < 6
      · have h4 : (r.size : Int) < 4 := by omega
        simp only [if_pos h4, if_pos h3]; exact Ev.now _
      · have h4 : ¬ (r.size : Int) < 4 := by omega
        have h5 : 4 ≤ (r.size : Int) := by omega
        simp only [if_neg h4, if_neg h3, if_pos h5]
        have e4 : (r.extract 0 4).data.toList = (l.drop 2).take 4 := by rw [ext_head, er]
        have := number_ev (r.extract 0 4) (by rw [e4, List.length_take]; omega)
        rw [e4] at this
        exact Ev.bind (f := fun _ t => some (t, (6 : Int))) this (Ev.now _)
  · simp only [if_neg h1, if_neg (show ¬ (false = true) by decide)]
    exact Ev.now _

/-! ### Points -/
theorem num_range (l : List UInt8) : -1 ≤ num l ∧ num l ≤ 196607 := by
  unfold num
  have := numF_neg l 0 (by omega)
  split
  · omega
  · split <;> omega
theorem num_nil : num [] = -1 := rfl
theorem esc_range (l : List UInt8) : -1 ≤ (esc l).1 ∧ (esc l).1 ≤ 196607 := by
  unfold esc
  split
  · split
    · split
      · simp
      · split
        · simp
        · exact num_range _
    · split
      · simp
      · exact num_range _
  · simp
theorem esc_snd (l : List UInt8) (h : ¬ (esc l).1 < 0) : 5 ≤ (esc l).2 ∧ (esc l).2 ≤ l.length ∧ (esc l).2 ≤ 9 := by
  unfold esc at h ⊢
  have hi := indexByte_range (l.drop 3) 125
  rw [List.length_drop] at hi
  split at h
  · split at h
    · split at h
      · exact absurd h (by simp)
      · split at h
        · exact absurd h (by simp)
        · rename_i h1 h2 h3 h4
          rw [if_pos h1, if_pos h2, if_neg h3, if_neg h4]
          have hne : Lib.indexByte (l.drop 3) 125 ≠ 0 := by
            intro e
            rw [e] at h
            simp [num] at h
          simp only
          omega
    · split at h
      · exact absurd h (by simp)
      · rename_i h1 h2 h3
        rw [if_pos h1, if_neg h2, if_neg h3]
        simp only
        omega
  · exact absurd h (by simp)
def ptsF : Nat → List UInt8 → List Int
  | 0, _ => []
  | _ + 1, [] => []
  | k + 1, b :: r => if (esc (b :: r)).1 < 0 then (b.toNat : Int) :: ptsF k r else (esc (b :: r)).1 :: ptsF k ((b :: r).drop (esc (b :: r)).2.toNat)
def pts (l : List UInt8) : List Int := ptsF l.length l
theorem ptsF_more : ∀ (n k : Nat) (l : List UInt8), l.length ≤ k → k ≤ n → ptsF n l = ptsF k l
  | 0, k, l, hl, hk => by
    obtain rfl : k = 0 := by omega
    rfl
  | n + 1, 0, l, hl, hk => by
    obtain rfl : l = [] := List.eq_nil_of_length_eq_zero (by omega)
    rfl
  | n + 1, k + 1, [], hl, hk => rfl
  | n + 1, k + 1, b :: r, hl, hk => by
    simp only [ptsF]
    simp only [List.length_cons] at hl
    split
    · rw [ptsF_more n k r (by omega) (by omega)]
    · rename_i h
      have hs := esc_snd (b :: r) h
      rw [ptsF_more n k _ (by rw [List.length_drop, List.length_cons]; omega) (by omega)]
theorem pts_cons (b : UInt8) (r : List UInt8) : pts (b :: r) = if (esc (b :: r)).1 < 0 then (b.toNat : Int) :: pts r else (esc (b :: r)).1 :: pts ((b :: r).drop (esc (b :: r)).2.toNat) := by
  unfold pts
  simp only [List.length_cons, ptsF]
  split
  · rfl
  · rename_i h
    have hs := esc_snd (b :: r) h
    rw [ptsF_more r.length ((b :: r).drop (esc (b :: r)).2.toNat).length _ (Nat.le_refl _) (by rw [List.length_drop, List.length_cons]; omega)]
theorem pts_nil : pts [] = [] := rfl
/-- By what a literal begins with. -/
theorem pts_ind {P : List UInt8 → Prop} (h0 : P []) (h1 : ∀ b r, (esc (b :: r)).1 < 0 → P r → P (b :: r))
    (h2 : ∀ b r, ¬ (esc (b :: r)).1 < 0 → P ((b :: r).drop (esc (b :: r)).2.toNat) → P (b :: r)) (l : List UInt8) : P l := by
  have key : ∀ (n : Nat) (l : List UInt8), l.length ≤ n → P l := by
    intro n
    induction n with
    | zero => intro l hl; obtain rfl : l = [] := List.eq_nil_of_length_eq_zero (by omega); exact h0
    | succ n ih =>
      intro l hl
      cases l with
      | nil => exact h0
      | cons b r =>
        simp only [List.length_cons] at hl
        by_cases h : (esc (b :: r)).1 < 0
        · exact h1 b r h (ih r (by omega))
        · have hs := esc_snd (b :: r) h
          exact h2 b r h (ih _ (by rw [List.length_drop, List.length_cons]; omega))
  exact key l.length l (Nat.le_refl _)
theorem pts_len (l : List UInt8) : (pts l).length ≤ l.length := by
  induction l using pts_ind with
  | h0 => simp [pts_nil]
  | h1 b r h ih => rw [pts_cons, if_pos h]; simp only [List.length_cons]; omega
  | h2 b r h ih =>
    have hs := esc_snd (b :: r) h
    rw [pts_cons, if_neg h]
    rw [List.length_drop] at ih
    simp only [List.length_cons] at *
    omega
theorem pts_points (l : List UInt8) : ∀ c ∈ pts l, 0 ≤ c ∧ c ≤ 196607 := by
  induction l using pts_ind with
  | h0 => simp [pts_nil]
  | h1 b r h ih =>
    rw [pts_cons, if_pos h]
    have := b.toNat_lt
    intro c hc
    rcases List.mem_cons.1 hc with rfl | hc
    · omega
    · exact ih c hc
  | h2 b r h ih =>
    rw [pts_cons, if_neg h]
    have := esc_range (b :: r)
    intro c hc
    rcases List.mem_cons.1 hc with rfl | hc
    · omega
    · exact ih c hc
theorem points_l0 (s : ByteArray) (hs : s.size ≤ 10000000000) (d : Nat) : ∀ (i : Nat) (acc : List Int), i ≤ s.data.toList.length → s.data.toList.length - i ≤ d → acc.length ≤ i →
    Ev (fun k => lit_Points.l0 k s acc (i : Int)) (acc ++ pts (s.data.toList.drop i)) := by
  have hlen : s.size = s.data.toList.length := Lib.size_eq s
  induction d with
  | zero =>
    intro i acc hi hd ha
    obtain rfl : i = s.data.toList.length := by omega
    refine Ev.step (f := fun _ => some (acc ++ pts (s.data.toList.drop s.data.toList.length))) (fun k => ?_) (Ev.now _)
    simp only [lit_Points.l0]
    rw [if_pos (by omega), List.drop_eq_nil_of_le (Nat.le_refl _), pts_nil, List.append_nil]
  | succ d ih =>
    intro i acc hi hd ha
    by_cases hlt : i < s.data.toList.length
    · have he : (s.extract i s.size).data.toList = s.data.toList.drop i := ext_tail s i
      have hz : (s.extract i s.size).size ≤ 140737488351232 := by rw [Lib.size_eq, he, List.length_drop]; omega
      obtain ⟨K, hK⟩ := escaped_ev (s.extract i s.size) hz
      rw [he] at hK
      have hdr : s.data.toList.drop i = s.data.toList[i] :: s.data.toList.drop (i + 1) := List.drop_eq_getElem_cons hlt
      have hc := pts_cons s.data.toList[i] (s.data.toList.drop (i + 1))
      rw [← hdr] at hc
      have hb := s.data.toList[i].toNat_lt
      by_cases hneg : (esc (s.data.toList.drop i)).1 < 0
      · rw [if_pos hneg] at hc
        obtain ⟨K', hK'⟩ := ih (i + 1) (acc ++ [(s.data.toList[i].toNat : Int)]) (by omega) (by omega) (by simp; omega)
        refine ⟨max K K' + 1, fun k hk => ?_⟩
        obtain ⟨k, rfl⟩ : ∃ m, k = m + 1 := ⟨k - 1, by omega⟩
        have e1 : lit_escaped.f k (s.extract i s.size) = some (esc (s.data.toList.drop i)) := hK k (by omega)
        simp only [lit_Points.l0]
        rw [if_neg (by omega), if_pos (by omega), if_pos (by omega), Int.toNat_natCast, e1]
        simp only [Option.bind_some]
        rw [if_pos hneg, if_pos (by omega), if_pos (by omega), bt_nat s i hlt, w64 (by omega) (by omega), w64 (by omega) (by omega)]
        have := hK' k (by omega)
        rw [hc]
        rw [List.append_assoc] at this
        exact this
      · have hsn := esc_snd _ hneg
        rw [List.length_drop] at hsn
        rw [if_neg hneg] at hc
        obtain ⟨n, hn⟩ : ∃ n : Nat, (esc (s.data.toList.drop i)).2 = (n : Int) := ⟨(esc (s.data.toList.drop i)).2.toNat, by omega⟩
        rw [hn, Int.toNat_natCast, List.drop_drop] at hc
        obtain ⟨K', hK'⟩ := ih (i + n) (acc ++ [(esc (s.data.toList.drop i)).1]) (by omega) (by omega) (by simp; omega)
        refine ⟨max K K' + 1, fun k hk => ?_⟩
        obtain ⟨k, rfl⟩ : ∃ m, k = m + 1 := ⟨k - 1, by omega⟩
        have e1 : lit_escaped.f k (s.extract i s.size) = some (esc (s.data.toList.drop i)) := hK k (by omega)
        simp only [lit_Points.l0]
        rw [if_neg (by omega), if_pos (by omega), if_pos (by omega), Int.toNat_natCast, e1]
        simp only [Option.bind_some]
        rw [if_neg hneg, if_pos (by omega), hn, w64 (by omega) (by omega)]
        have := hK' k (by omega)
        rw [hc]
        rw [List.append_assoc] at this
        exact this
    · obtain rfl : i = s.data.toList.length := by omega
      refine Ev.step (f := fun _ => some (acc ++ pts (s.data.toList.drop s.data.toList.length))) (fun k => ?_) (Ev.now _)
      simp only [lit_Points.l0]
      rw [if_pos (by omega), List.drop_eq_nil_of_le (Nat.le_refl _), pts_nil, List.append_nil]
theorem points_ev (s : ByteArray) (hs : s.size ≤ 10000000000) : Ev (fun k => lit_Points.f k s) (pts s.data.toList) :=
  points_l0 s hs s.data.toList.length 0 [] (by omega) (by omega) (by simp)
/-! ### Ints -/
theorem rd_nat (l : List Int) (i : Nat) (h : i < l.length) : rd l (i : Int) = l[i] := by
  unfold rd
  rw [Int.toNat_natCast, List.getD_eq_getElem?_getD, List.getElem?_eq_getElem h]; rfl
theorem ints_l0 (a b : List Int) (hab : a.length = b.length) (ha : a.length ≤ 140737488351232) (d : Nat) : ∀ i : Nat, i + d = a.length → Ev (fun k => gudgeonref07_Ints.l0 k a b (i : Int)) (decide (a.drop i = b.drop i)) := by
  induction d with
  | zero =>
    intro i hi
    refine Ev.step (f := fun _ => some (decide (a.drop i = b.drop i))) (fun k => ?_) (Ev.now _)
    simp only [gudgeonref07_Ints.l0]
    rw [if_neg (by omega), List.drop_eq_nil_of_le (by omega), List.drop_eq_nil_of_le (by omega)]
    rfl
  | succ d ih =>
    intro i hi
    have h1 : i < a.length := by omega
    have h2 : i < b.length := by omega
    obtain ⟨K, hK⟩ := ih (i + 1) (by omega)
    refine ⟨K + 1, fun k hk => ?_⟩
    obtain ⟨k, rfl⟩ : ∃ m, k = m + 1 := ⟨k - 1, by omega⟩
    simp only [gudgeonref07_Ints.l0]
    rw [if_pos (by omega), if_pos (by omega), if_pos (by omega), rd_nat a i h1, rd_nat b i h2, List.drop_eq_getElem_cons h1, List.drop_eq_getElem_cons h2]
    by_cases he : a[i] = b[i]
    · rw [if_pos he, w64 (by omega) (by omega)]
      have e1 : gudgeonref07_Ints.l0 k a b ((i + 1 : Nat) : Int) = some (decide (a.drop (i + 1) = b.drop (i + 1))) := hK k (by omega)
      refine Eq.trans e1 ?_
      simp only [List.cons.injEq, he, true_and]
    · rw [if_neg he]
      simp only [List.cons.injEq, he, false_and, decide_false]
theorem ints_ev (a b : List Int) (ha : a.length ≤ 140737488351232) : Ev (fun k => gudgeonref07_Ints.f k a b) (decide (a = b)) := by
  unfold gudgeonref07_Ints.f
  by_cases h : (a.length : Int) = (b.length : Int)
  · simp only [if_pos h]
    have := ints_l0 a b (by omega) ha a.length 0 (by omega)
    simpa using this
  · simp only [if_neg h]
    have : a ≠ b := fun e => h (by rw [e])
    simp only [this, decide_false]
    exact Ev.now _
end Go.Proofs.YtjpcbflkgldokaaDoor.S
