import Derived.Test.YtlfpnohpcemkgaaDoorNatE
import Derived.Test.YtlfpnohpcemkgaaDoorPAx7
import Derived.Test.YtlfpnohpcemkgaaDoorHParse
/- nat.Text and nat.Parse: the digits of a number, and back. -/
namespace Go.Proofs.YtlfpnohpcemkgaaDoor.V
set_option linter.unusedVariables false
set_option linter.unusedSimpArgs false
open Go.RowKit Go.Proofs.YtlfpnohpcemkgaaDoor.PA Go.Proofs.YtlfpnohpcemkgaaDoor.H Go.Proofs.YtlfpnohpcemkgaaDoorW.PrintWords Go.Proofs.YtlfpnohpcemkgaaDoorW.PrintLast Go.Proofs.YtlfpnohpcemkgaaDoorW.PrintMore

theorem ba_ext {a b : ByteArray} (h : a.data.toList = b.data.toList) : a = b := by
  obtain ⟨⟨a⟩⟩ := a; obtain ⟨⟨b⟩⟩ := b
  simp only at h; rw [h]
theorem bt_nat (s : ByteArray) (i : Nat) (h : i < s.data.toList.length) : bt s (i : Int) = ((s.data.toList[i]).toNat : Int) := by
  have h' : i < s.size := by rw [Lib.size_eq]; exact h
  unfold bt
  rw [dif_pos (by simpa using h')]
  rfl
theorem size_len (s : ByteArray) : s.size = s.data.toList.length := by rw [Lib.size_eq]
theorem toList_nil (s : ByteArray) : (s.toList = ([] : List UInt8)) ↔ s.data.toList = [] := by rw [Lib.toList_data]

/-- A number's decimal digits, the highest one first; none for nought. -/
def decL (n : Nat) : List UInt8 := if h : n = 0 then [] else decL (n / 10) ++ [UInt8.ofNat (48 + n % 10)]
termination_by n
decreasing_by omega
/-- A number's text. -/
def textL (n : Nat) : List UInt8 := if n = 0 then [48] else decL n
theorem decL_zero : decL 0 = [] := by rw [decL]; rfl
theorem decL_pos {n : Nat} (h : n ≠ 0) : decL n = decL (n / 10) ++ [UInt8.ofNat (48 + n % 10)] := by rw [decL, dif_neg h]
theorem decL_ne {n : Nat} (h : n ≠ 0) : decL n ≠ [] := by rw [decL_pos h]; simp
def zero48 (c : UInt8) : Bool := c == 48
theorem ofNat48 (d : Nat) (hd : d < 10) : (UInt8.ofNat (48 + d)).toNat = 48 + d := by
  simp [UInt8.toNat_ofNat']
  omega
theorem zero48_digit (d : Nat) (hd : d < 10) : zero48 (UInt8.ofNat (48 + d)) = decide (d = 0) := by
  unfold zero48
  rw [Bool.eq_iff_iff]
  simp only [beq_iff_eq, decide_eq_true_eq]
  rw [← UInt8.toNat_inj, ofNat48 d hd]
  simp
theorem drop_append_ne {p : UInt8 → Bool} {a b : List UInt8} (h : a.dropWhile p ≠ []) : (a ++ b).dropWhile p = a.dropWhile p ++ b := by
  rw [List.dropWhile_append]
  cases hd : a.dropWhile p with
  | nil => exact absurd hd h
  | cons _ _ => simp
theorem drop_append_nil {p : UInt8 → Bool} {a b : List UInt8} (h : a.dropWhile p = []) : (a ++ b).dropWhile p = b.dropWhile p := by
  rw [List.dropWhile_append, h]
  simp
/-- Without the noughts ahead, so many digits are the number's own. -/
theorem nine_drop (k : Nat) : ∀ u, u < 10 ^ k → (nineL k u).dropWhile zero48 = decL u := by
  induction k with
  | zero =>
    intro u hu
    simp at hu
    subst hu
    simp [nineL, decL_zero]
  | succ k ih =>
    intro u hu
    rw [Nat.pow_succ] at hu
    have := ih (u / 10) (by omega)
    simp only [nineL]
    by_cases h10 : u / 10 = 0
    · rw [h10, decL_zero] at this
      rw [h10, drop_append_nil this]
      have hz := zero48_digit (u % 10) (by omega)
      by_cases h0 : u % 10 = 0
      · have hu0 : u = 0 := by omega
        rw [decide_eq_true h0] at hz
        rw [List.dropWhile_cons_of_pos hz, hu0, decL_zero]
        rfl
      · rw [decide_eq_false h0] at hz
        rw [List.dropWhile_cons_of_neg (by rw [hz]; decide), decL_pos (show u ≠ 0 by omega), h10, decL_zero]
        rfl
    · rw [drop_append_ne (by rw [this]; exact decL_ne h10), this, ← decL_pos (by omega)]
theorem dec_nine (k : Nat) : ∀ q r, q ≠ 0 → r < 10 ^ k → decL (q * 10 ^ k + r) = decL q ++ nineL k r := by
  induction k with
  | zero =>
    intro q r hq hr
    simp at hr
    subst hr
    simp [nineL]
  | succ k ih =>
    intro q r hq hr
    rw [Nat.pow_succ] at hr
    have hp := Nat.pow_pos (n := k) (show 0 < 10 by omega)
    have hqp : 0 < q * 10 ^ k := Nat.mul_pos (by omega) hp
    have e1 : q * 10 ^ (k + 1) = (q * 10 ^ k) * 10 := by rw [Nat.pow_succ, Nat.mul_assoc]
    rw [e1, decL_pos (by omega), show (q * 10 ^ k * 10 + r) / 10 = q * 10 ^ k + r / 10 by omega, ih q (r / 10) hq (by omega), show (q * 10 ^ k * 10 + r) % 10 = r % 10 by omega]
    simp [nineL]
/-- What the loop of Text puts together: nine digits at a time. -/
def chunks (n : Nat) : List UInt8 := if h : n = 0 then [] else chunks (n / 1000000000) ++ nineL 9 (n % 1000000000)
termination_by n
decreasing_by omega
theorem chunks_zero : chunks 0 = [] := by rw [chunks]; rfl
theorem chunks_pos {n : Nat} (h : n ≠ 0) : chunks n = chunks (n / 1000000000) ++ nineL 9 (n % 1000000000) := by rw [chunks, dif_neg h]
theorem chunks_drop (n : Nat) : (chunks n).dropWhile zero48 = decL n := by
  induction n using Nat.strongRecOn with
  | _ n ih =>
    by_cases h : n = 0
    · subst h; rw [chunks_zero, decL_zero]; rfl
    · rw [chunks_pos h]
      have := ih (n / 1000000000) (by omega)
      by_cases hq : n / 1000000000 = 0
      · rw [hq, decL_zero] at this
        rw [hq, drop_append_nil this, nine_drop 9 _ (by omega)]
        congr 1
        omega
      · rw [drop_append_ne (by rw [this]; exact decL_ne hq), this, ← dec_nine 9 _ _ hq (by omega)]
        congr 1
        omega
theorem trimByte_ev (n : Nat) : ∀ s : ByteArray, s.data.toList.length = n → s.size ≤ 1000000000000 → Ev (fun k => strings_trimLeftByte.l0 k s 48) ⟨(s.data.toList.dropWhile zero48).toArray⟩ := by
  induction n with
  | zero =>
    intro s hs hn
    have h0 := List.eq_nil_of_length_eq_zero hs
    have h1 : s.size = 0 := by rw [size_len, hs]
    refine Ev.step (f := fun _ => some _) (fun k => ?_) (Ev.now _)
    simp only [strings_trimLeftByte.l0]
    rw [if_neg (by omega)]
    congr 1
    apply ba_ext
    rw [h0]
    rfl
  | succ n ih =>
    intro s hs hn
    have h1 : s.size = n + 1 := by rw [size_len, hs]
    have hb : bt s 0 = ((s.data.toList[0]).toNat : Int) := bt_nat s 0 (by omega)
    obtain ⟨c, r, hcr⟩ : ∃ c r, s.data.toList = c :: r := List.exists_cons_of_length_eq_add_one hs
    have hc : (s.data.toList[0]'(by omega)) = c := by simp [hcr]
    rw [hc] at hb
    have hext : (s.extract 1 s.size).data.toList = r := by
      have hrl : r.length = n := by rw [hcr] at hs; simpa using hs
      rw [Lib.extract_data, hcr, List.drop_succ_cons, List.drop_zero, List.take_of_length_le (by omega)]
    by_cases hz : c = 48
    · subst hz
      have hrl : r.length = n := by rw [hcr] at hs; simpa using hs
      have := ih (s.extract 1 s.size) (by rw [hext]; exact hrl) (by rw [size_len, hext]; omega)
      rw [hext] at this
      refine Ev.step (fun k => ?_) (show Ev _ (⟨(s.data.toList.dropWhile zero48).toArray⟩ : ByteArray) from by rw [hcr, List.dropWhile_cons_of_pos (by rfl)]; exact this)
      simp only [strings_trimLeftByte.l0]
      rw [if_pos (by omega), if_pos (by omega), hb, if_pos (by rfl), if_pos (by omega)]
    · refine Ev.step (f := fun _ => some _) (fun k => ?_) (Ev.now _)
      simp only [strings_trimLeftByte.l0]
      have hcz : zero48 c = false := by unfold zero48; simpa using hz
      have hne : ¬ ((c.toNat : Int) = 48) := by
        intro h
        apply hz
        rw [← UInt8.toNat_inj]
        have : c.toNat = 48 := by omega
        rw [this]; rfl
      rw [if_pos (by omega), if_pos (by omega), hb, if_neg hne]
      congr 1
      apply ba_ext
      rw [hcr, List.dropWhile_cons_of_neg (by rw [hcz]; decide)]
theorem trim_ev (s : ByteArray) (hn : s.size ≤ 1000000000000) : Ev (fun k => strings_TrimLeft.f k s ⟨#[48]⟩) ⟨(s.data.toList.dropWhile zero48).toArray⟩ := by
  by_cases h : s.data.toList = []
  · refine Ev.congr (f := fun _ => some _) (fun k => ?_) (Ev.now _)
    unfold strings_TrimLeft.f
    rw [if_pos rfl, if_pos ((toList_nil s).2 h)]
    congr 1
    apply ba_ext
    rw [h]
    rfl
  · refine Ev.congr (fun k => ?_) (trimByte_ev _ s rfl hn)
    unfold strings_TrimLeft.f
    rw [if_pos rfl, if_neg (fun z => h ((toList_nil s).1 z))]
    rfl
theorem nineL_length (k u : Nat) : (nineL k u).length = k := by
  induction k generalizing u with
  | zero => rfl
  | succ k ih => simp [nineL, ih]
theorem append_data (a b : ByteArray) : (a ++ b).data.toList = a.data.toList ++ b.data.toList := by
  simp [ByteArray.data_append]
theorem text_l0 (n : Nat) : ∀ s : ByteArray, (dig n).length < 1000000000 → s.size + 9 * n ≤ s.size + 9 * n → ((chunks n ++ s.data.toList).length ≤ 1000000000000) → Ev (fun k => nat_Text.l0 k (dig n) s) (⟨(if (chunks n ++ s.data.toList).dropWhile zero48 = [] then [48] else (chunks n ++ s.data.toList).dropWhile zero48).toArray⟩ : ByteArray) := by
  induction n using Nat.strongRecOn with
  | _ n ih =>
    intro s hl _ hc
    by_cases hz : n = 0
    · subst hz
      rw [chunks_zero, List.nil_append] at hc ⊢
      rw [show ((0 : Nat) : Int) = 0 from rfl, dig_zero] at hl ⊢
      have ht := trim_ev s (by rw [size_len]; omega)
      refine Ev.step (fun k => by
        simp only [nat_Text.l0]
        rw [if_neg (by simp)]) (Ev.bind ht ?_)
      by_cases he : s.data.toList.dropWhile zero48 = []
      · refine Ev.congr (f := fun _ => some _) (fun k => ?_) (Ev.now _)
        rw [if_pos he, if_pos (by rw [toList_nil]; simpa using he)]
      · refine Ev.congr (f := fun _ => some _) (fun k => ?_) (Ev.now _)
        rw [if_neg he, if_neg (by rw [toList_nil]; simpa using he)]
    · have hsm := small_ev (dig n) 1000000000 (dig_lim _) (by omega) (by omega) hl
      rw [val_dig (by omega)] at hsm
      have e1 : (n : Int) / 1000000000 = ((n / 1000000000 : Nat) : Int) := by omega
      have e2 : (n : Int) % 1000000000 = ((n % 1000000000 : Nat) : Int) := by omega
      rw [e1, e2] at hsm
      have hlen : 0 < (dig n).length := by
        have : dig (n : Int) ≠ [] := by rw [Ne, dig_eq_nil (by omega)]; omega
        cases h : dig (n : Int) with
        | nil => exact absurd h this
        | cons _ _ => simp
      have hlq : (dig ((n / 1000000000 : Nat) : Int)).length ≤ (dig (n : Int)).length := by
        have := lt_of_dig_length (n := (n : Int)) (by omega) (Nat.le_refl _)
        exact dig_length_le (by omega) (by omega)
      have hcn := chunks_pos hz
      have hst : ((⟨(nineL 9 (n % 1000000000)).toArray⟩ : ByteArray) ++ s).data.toList = nineL 9 (n % 1000000000) ++ s.data.toList := by rw [append_data]
      have := ih (n / 1000000000) (by omega) ((⟨(nineL 9 (n % 1000000000)).toArray⟩ : ByteArray) ++ s) (by omega) (by omega) (by rw [hst, ← List.append_assoc, ← hcn]; exact hc)
      rw [hst, ← List.append_assoc, ← hcn] at this
      refine Ev.step (fun k => by
        simp only [nat_Text.l0]
        rw [if_pos (by omega)]) (Ev.bind hsm ?_)
      refine Ev.congr (fun k => ?_) this
      simp only []
      have h9 : nat_nine.f ((n % 1000000000 : Nat) : Int) = some ⟨(nineL 9 (n % 1000000000)).toArray⟩ := by
        unfold nat_nine.f
        rw [if_pos (by omega), Int.toNat_natCast]
      rw [h9, Option.bind_some, if_pos]
      have z1 : (⟨(nineL 9 (n % 1000000000)).toArray⟩ : ByteArray).size = 9 := by
        rw [size_len]; simp [nineL_length]
      rw [z1, size_len]
      rw [List.length_append] at hc
      omega
theorem chunks_length (n m : Nat) (h : (n : Int) < pw m) : (chunks n).length ≤ 18 * m := by
  induction m generalizing n with
  | zero => rw [pw_zero] at h; rw [show n = 0 by omega, chunks_zero]; simp
  | succ m ih =>
    rw [pw_succ] at h
    by_cases hz : n = 0
    · rw [hz, chunks_zero]; simp
    · rw [chunks_pos hz, List.length_append, nineL_length]
      by_cases hq : n / 1000000000 = 0
      · rw [hq, chunks_zero]; simp; omega
      · rw [chunks_pos hq, List.length_append, nineL_length]
        have := ih (n / 1000000000 / 1000000000) (by omega)
        omega
theorem text_ev (l : List Int) (h : Lim l) (hn : l.length < 1000000) : Ev (fun k => nat_Text.f k l) (⟨(textL (val l).toNat).toArray⟩ : ByteArray) := by
  have hv := val_nonneg h
  have hl := val_lt h
  have hd := dig_length l h
  have hc := chunks_length (val l).toNat l.length (by omega)
  have := text_l0 (val l).toNat (⟨#[]⟩ : ByteArray) (by rw [show (((val l).toNat : Nat) : Int) = val l by omega]; omega) (Nat.le_refl _) (by simp; omega)
  rw [show (((val l).toNat : Nat) : Int) = val l by omega] at this
  have e : (chunks (val l).toNat ++ (⟨#[]⟩ : ByteArray).data.toList).dropWhile zero48 = decL (val l).toNat := by
    rw [show (⟨#[]⟩ : ByteArray).data.toList = [] from rfl, List.append_nil, chunks_drop]
  rw [e] at this
  have e2 : (if decL (val l).toNat = [] then [48] else decL (val l).toNat) = textL (val l).toNat := by
    unfold textL
    by_cases hz : (val l).toNat = 0
    · rw [if_pos hz, hz, decL_zero, if_pos rfl]
    · rw [if_neg hz, if_neg (decL_ne hz)]
  rw [e2] at this
  refine Ev.congr (fun k => ?_) this
  unfold nat_Text.f
  rw [norm_ev l h (by omega), Option.bind_some]

/-! ### Parse -/
def isD (c : UInt8) : Bool := decide (48 ≤ c.toNat) && decide (c.toNat ≤ 57)
/-- The number of digits, behind a number. -/
def decV (v : Int) : List UInt8 → Int
  | [] => v
  | c :: r => decV (v * 10 + (c.toNat - 48)) r
/-- What a text's number is: its limbs and whether it is one (8: it is none). -/
def parseR (l : List UInt8) : List Int × Int :=
  if l = [] then ([], 8) else if 2000 < l.length then ([], 8) else if l.head? = some 48 ∧ l ≠ [48] then ([], 8) else if l.all isD then (dig (decV 0 l), 0) else ([], 8)
theorem parse_l0 (s : ByteArray) (hs : s.data.toList.length ≤ 2000) (d : Nat) : ∀ (i : Nat) (v : Int), i + d = s.data.toList.length → 0 ≤ v → v < pw i →
    Ev (fun k => nat_Parse.l0 k s (dig v) (i : Int)) (if (s.data.toList.drop i).all isD then (dig (decV v (s.data.toList.drop i)), 0) else ([], 8)) := by
  induction d with
  | zero =>
    intro i v hi h0 h1
    have hl := dig_length_le h0 h1
    refine Ev.step (f := fun _ => some _) (fun k => ?_) (Ev.now _)
    simp only [nat_Parse.l0]
    rw [if_neg (by rw [size_len]; omega), norm_ev _ (dig_lim _) (by omega), List.drop_eq_nil_of_le (by omega), val_dig h0]
    rfl
  | succ d ih =>
    intro i v hi h0 h1
    have hlt : i < s.data.toList.length := by omega
    have hl := dig_length_le h0 h1
    have hdrop : s.data.toList.drop i = s.data.toList[i] :: s.data.toList.drop (i + 1) := List.drop_eq_getElem_cons hlt
    have hb := bt_nat s i hlt
    rw [hdrop]
    obtain ⟨c, hc⟩ : ∃ c, c = s.data.toList[i] := ⟨_, rfl⟩
    rw [← hc] at hb ⊢
    by_cases c1 : c.toNat < 48
    · refine Ev.step (f := fun _ => some _) (fun k => ?_) (Ev.now _)
      simp only [nat_Parse.l0]
      have hf : isD c = false := by unfold isD; simp; omega
      rw [if_pos (by rw [size_len]; omega), hb, if_pos (by omega), List.all_cons, hf]
      rfl
    by_cases c2 : 57 < c.toNat
    · refine Ev.step (f := fun _ => some _) (fun k => ?_) (Ev.now _)
      simp only [nat_Parse.l0]
      have hf : isD c = false := by unfold isD; simp; omega
      rw [if_pos (by rw [size_len]; omega), hb, if_neg (by omega), if_pos (by omega), List.all_cons, hf]
      rfl
    have ht : isD c = true := by unfold isD; simp; omega
    have hm := mul_ev (dig v) [10] (dig_lim _) (lim_one (by omega) (by omega)) (by omega) (by simp)
    rw [val_dig h0, val_one] at hm
    have h2 : v * 10 < pw (i + 1) := by rw [pw_succ]; omega
    have hml := dig_length_le (by omega) h2
    have hx0 : (0 : Int) ≤ c.toNat - 48 := by omega
    have hx1 : (c.toNat : Int) - 48 < 10 := by omega
    have ha := add_ev (dig (v * 10)) [(c.toNat : Int) - 48] (dig_lim _) (lim_one hx0 (by omega)) (by omega) (by simp)
    rw [val_dig (by omega), val_one] at ha
    have := ih (i + 1) (v * 10 + (c.toNat - 48)) (by omega) (by omega) (by rw [pw_succ]; omega)
    rw [List.all_cons, ht]
    refine Ev.step (fun k => by
      simp only [nat_Parse.l0]
      rw [if_pos (by rw [size_len]; omega), hb, if_neg (by omega), if_neg (by omega)]) (Ev.bind hm (Ev.bind ha ?_))
    refine Ev.congr (fun k => by rw [show (i : Int) + 1 = ((i + 1 : Nat) : Int) by omega]) this
theorem parse_ev (s : ByteArray) (hsz : s.size ≤ 1000000000) : Ev (fun k => nat_Parse.f k s) (parseR s.data.toList) := by
  have hl := size_len s
  unfold parseR
  by_cases h1 : s.data.toList = []
  · refine Ev.congr (f := fun _ => some _) (fun k => ?_) (Ev.now _)
    unfold nat_Parse.f
    rw [if_pos ((toList_nil s).2 h1), if_pos h1]
  rw [if_neg h1]
  have h1' : ¬ s.toList = ([] : List UInt8) := fun z => h1 ((toList_nil s).1 z)
  by_cases h2 : 2000 < s.data.toList.length
  · refine Ev.congr (f := fun _ => some _) (fun k => ?_) (Ev.now _)
    unfold nat_Parse.f
    rw [if_neg h1', if_pos (by omega), if_pos h2]
  rw [if_neg h2]
  obtain ⟨c, r, hcr⟩ : ∃ c r, s.data.toList = c :: r := by
    cases h : s.data.toList with
    | nil => exact absurd h h1
    | cons c r => exact ⟨c, r, rfl⟩
  have hb : bt s 0 = (c.toNat : Int) := by
    have := bt_nat s 0 (by rw [hcr]; simp)
    simp only [hcr, List.getElem_cons_zero] at this
    exact this
  have hiff : (bt s 0 = 48 ∧ ¬ s.toList = ([48] : List UInt8)) ↔ (s.data.toList.head? = some 48 ∧ s.data.toList ≠ [48]) := by
    rw [Lib.toList_data, hb, hcr]
    simp only [List.head?_cons, Option.some.injEq]
    constructor
    · rintro ⟨h, h'⟩
      refine ⟨?_, h'⟩
      rw [← UInt8.toNat_inj]
      have : c.toNat = 48 := by omega
      rw [this]; rfl
    · rintro ⟨rfl, h'⟩
      exact ⟨rfl, h'⟩
  by_cases h3 : s.data.toList.head? = some 48 ∧ s.data.toList ≠ [48]
  · refine Ev.congr (f := fun _ => some _) (fun k => ?_) (Ev.now _)
    unfold nat_Parse.f
    rw [if_neg h1', if_neg (by omega), if_pos (hiff.2 h3), if_pos h3]
  rw [if_neg h3]
  have := parse_l0 s (by omega) s.data.toList.length 0 0 (by omega) (by omega) (by rw [pw_zero]; omega)
  rw [List.drop_zero, dig_zero] at this
  refine Ev.congr (fun k => ?_) this
  unfold nat_Parse.f
  rw [if_neg h1', if_neg (by omega), if_neg (fun z => h3 (hiff.1 z))]
  rfl

/-! ### digits and back -/
theorem decV_append (a b : List UInt8) (v : Int) : decV v (a ++ b) = decV (decV v a) b := by
  induction a generalizing v with
  | nil => rfl
  | cons c a ih => simp only [List.cons_append, decV, ih]
theorem decV_decL (n : Nat) : decV 0 (decL n) = n := by
  induction n using Nat.strongRecOn with
  | _ n ih =>
    by_cases h : n = 0
    · subst h; rw [decL_zero]; rfl
    · rw [decL_pos h, decV_append, ih _ (by omega)]
      simp only [decV]
      rw [ofNat48 _ (by omega)]
      omega
theorem decL_all (n : Nat) : (decL n).all isD = true := by
  induction n using Nat.strongRecOn with
  | _ n ih =>
    by_cases h : n = 0
    · subst h; rw [decL_zero]; rfl
    · rw [decL_pos h, List.all_append, ih _ (by omega)]
      simp only [List.all_cons, List.all_nil, Bool.and_true, Bool.true_and]
      unfold isD
      rw [ofNat48 _ (by omega)]
      simp
      omega
theorem decL_head (n : Nat) (h : n ≠ 0) : (decL n).head? ≠ some 48 := by
  induction n using Nat.strongRecOn with
  | _ n ih =>
    rw [decL_pos h]
    by_cases h10 : n / 10 = 0
    · rw [h10, decL_zero]
      simp only [List.nil_append, List.head?_cons]
      intro e
      have := Option.some.inj e
      rw [← UInt8.toNat_inj, ofNat48 _ (by omega)] at this
      simp at this
      omega
    · have := ih _ (by omega) h10
      cases hd : decL (n / 10) with
      | nil => exact absurd hd (decL_ne h10)
      | cons c r => rw [hd] at this; simpa using this
theorem decL_length (n m : Nat) (h : n < 10 ^ m) : (decL n).length ≤ m := by
  induction m generalizing n with
  | zero => simp at h; subst h; rw [decL_zero]; simp
  | succ m ih =>
    by_cases hz : n = 0
    · subst hz; rw [decL_zero]; simp
    · rw [Nat.pow_succ] at h
      rw [decL_pos hz]
      have := ih (n / 10) (by omega)
      simp; omega
theorem textL_ne (n : Nat) : textL n ≠ [] := by unfold textL; split; · simp
                                                · rename_i h; exact decL_ne h
theorem parse_text (n : Nat) (h : (textL n).length ≤ 2000) : parseR (textL n) = (dig n, 0) := by
  unfold parseR
  rw [if_neg (textL_ne n), if_neg (by omega)]
  by_cases hz : n = 0
  · subst hz
    rfl
  · have e : textL n = decL n := by unfold textL; rw [if_neg hz]
    rw [e, if_neg (fun z => decL_head n hz z.1), if_pos (decL_all n), decV_decL]
/-- A text of digits without a nought ahead is its number's. -/
theorem decV_nonneg (l : List UInt8) (hl : l.all isD = true) : ∀ v, 0 ≤ v → 0 ≤ decV v l := by
  induction l with
  | nil => intro v h; exact h
  | cons c l ih =>
    intro v h
    rw [List.all_cons, Bool.and_eq_true] at hl
    have : 48 ≤ c.toNat := by have := hl.1; unfold isD at this; simp at this; exact this.1
    exact ih hl.2 _ (by omega)
theorem decL_decV (l : List UInt8) (hl : l.all isD = true) : ∀ v : Nat, v ≠ 0 → decL (decV v l).toNat = decL v ++ l := by
  induction l with
  | nil => intro v h; simp [decV]
  | cons c l ih =>
    intro v h
    rw [List.all_cons, Bool.and_eq_true] at hl
    have hc : 48 ≤ c.toNat ∧ c.toNat ≤ 57 := by have := hl.1; unfold isD at this; simpa using this
    simp only [decV]
    have e : ((v : Int) * 10 + (c.toNat - 48)) = ((v * 10 + (c.toNat - 48) : Nat) : Int) := by omega
    rw [e, ih hl.2 _ (by omega), decL_pos (show v * 10 + (c.toNat - 48) ≠ 0 by omega), show (v * 10 + (c.toNat - 48)) / 10 = v by omega, show (v * 10 + (c.toNat - 48)) % 10 = c.toNat - 48 by omega, show 48 + (c.toNat - 48) = c.toNat by omega]
    simp
theorem text_parse (l : List UInt8) (h : (parseR l).2 = 0) : textL (decV 0 l).toNat = l ∧ parseR l = (dig (decV 0 l), 0) ∧ 0 ≤ decV 0 l := by
  unfold parseR at h ⊢
  by_cases h1 : l = []
  · rw [if_pos h1] at h; simp at h
  rw [if_neg h1] at h ⊢
  by_cases h2 : 2000 < l.length
  · rw [if_pos h2] at h; simp at h
  rw [if_neg h2] at h ⊢
  by_cases h3 : l.head? = some 48 ∧ l ≠ [48]
  · rw [if_pos h3] at h; simp at h
  rw [if_neg h3] at h ⊢
  by_cases h4 : l.all isD = true
  · rw [if_pos h4]
    refine ⟨?_, rfl, decV_nonneg l h4 0 (by omega)⟩
    cases l with
    | nil => exact absurd rfl h1
    | cons c r =>
      rw [List.all_cons, Bool.and_eq_true] at h4
      have hc : 48 ≤ c.toNat ∧ c.toNat ≤ 57 := by have := h4.1; unfold isD at this; simpa using this
      by_cases hz : c = 48
      · have : (c :: r : List UInt8) = [48] := by
          by_cases hr : (c :: r : List UInt8) = [48]
          · exact hr
          · exact absurd ⟨by rw [hz]; rfl, hr⟩ h3
        rw [this]; rfl
      · have hn : c.toNat ≠ 48 := fun z => hz (by rw [← UInt8.toNat_inj, z]; rfl)
        simp only [decV]
        have e : ((0 : Int) * 10 + (c.toNat - 48)) = ((c.toNat - 48 : Nat) : Int) := by omega
        rw [e]
        have hd := decL_decV r h4.2 (c.toNat - 48) (by omega)
        have hd1 : decL (c.toNat - 48) = [c] := by
          rw [decL_pos (by omega), show (c.toNat - 48) / 10 = 0 by omega, decL_zero, show (c.toNat - 48) % 10 = c.toNat - 48 by omega, show 48 + (c.toNat - 48) = c.toNat by omega]
          simp
        rw [hd1] at hd
        unfold textL
        rw [if_neg]
        · exact hd
        · intro z
          rw [z, decL_zero] at hd
          simp at hd
  · rw [if_neg h4] at h; simp at h
theorem parse_err (l : List UInt8) (h : (parseR l).2 ≠ 0) : parseR l = ([], 8) := by
  unfold parseR at h ⊢
  split
  · rfl
  · split
    · rfl
    · split
      · rfl
      · split
        · rename_i a b c d
          rw [if_neg a, if_neg b, if_neg c, if_pos d] at h
          exact absurd rfl h
        · rfl
end Go.Proofs.YtlfpnohpcemkgaaDoor.V
