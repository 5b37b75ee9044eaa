import Derived.Test.YtjpcbflkgldokaaDoorLitA
import Derived.Test.YtjpcbflkgldokaaDoorPAx7
/- lit's LitHex, as a plain statement: digits, with noughts ahead, are the number. -/
namespace Go.Proofs.YtjpcbflkgldokaaDoor.S
set_option linter.unusedVariables false
set_option linter.unusedSimpArgs false
open Go.RowKit Go.Proofs.YtjpcbflkgldokaaDoor.PA Go.Proofs.YtjpcbflkgldokaaDoor.H Go.Proofs.YtjpcbflkgldokaaDoorW.PrintWords Go.Proofs.YtjpcbflkgldokaaDoorW.PrintLast

/-- Digits of a number. -/
structure Digs (h : List UInt8) (n c : Int) : Prop where
  val : numF n h = c
  all : ∀ b ∈ h, 0 ≤ hexv b
theorem Digs.zero {h : List UInt8} {c : Int} (d : Digs h 0 c) : Digs (48 :: h) 0 c :=
  ⟨d.val, fun b hb => by
    rcases List.mem_cons.1 hb with rfl | hb
    · decide
    · exact d.all b hb⟩
theorem Digs.num_eq {h : List UInt8} {c : Int} (d : Digs h 0 c) (hn : h ≠ []) (hc : c ≤ 196607) : num h = c := by
  unfold num
  rw [if_neg hn, d.val, if_neg (by omega)]
theorem Digs.not_mem {h : List UInt8} {n c : Int} (d : Digs h n c) (b : UInt8) (hb : hexv b < 0) : b ∉ h := fun hm => by
  have := d.all b hm; omega
theorem digs_brace {h : List UInt8} {c : Int} (d : Digs h 0 c) (hn : h ≠ []) (h0 : 0 ≤ c) (hc : c ≤ 196607) (hl : h.length ≤ 5) : pts (92 :: 117 :: 123 :: (h ++ [125])) = [c] := by
  rw [pts_cons, esc_brace h [] (d.not_mem 125 (by decide)) hl, d.num_eq hn hc, if_neg (by simp only; omega)]
  congr 1
  have e : ((h.length : Int) + 4).toNat = h.length + 1 + 3 := by omega
  simp only [e, List.drop_succ_cons]
  rw [List.drop_eq_nil_of_le (by simp)]
  rfl
theorem digs_four {h : List UInt8} {c : Int} (d : Digs h 0 c) (h0 : 0 ≤ c) (hc : c ≤ 196607) (hl : h.length = 4) : pts (92 :: 117 :: h) = [c] := by
  obtain ⟨b0, b1, b2, b3, rfl⟩ : ∃ b0 b1 b2 b3, h = [b0, b1, b2, b3] := by
    match h, hl with
    | [b0, b1, b2, b3], _ => exact ⟨b0, b1, b2, b3, rfl⟩
  have hb : b0 ≠ 123 := fun e => d.not_mem 123 (by decide) (by rw [e]; exact List.mem_cons_self)
  have he : esc (92 :: 117 :: [b0, b1, b2, b3]) = (c, 6) := by
    unfold esc
    simp only [List.take_succ_cons, List.take_zero, List.drop_succ_cons, List.drop_zero, if_true, List.length_cons, List.length_nil]
    rw [if_neg (by intro h; exact hb (List.cons.inj h).1), if_neg (by omega), d.num_eq (by simp) hc]
  rw [pts_cons, he, if_neg (by simp only; omega)]
  rfl
theorem hex_l2 (c : Int) (h0 : 0 ≤ c) (hc : c ≤ 196607) (d : Nat) : ∀ h : List UInt8, Digs h 0 c → h.length ≤ 5 → 4 ≤ h.length + d →
    Ev (fun k => gudgeonlaw07_LitHex.l2 k c ⟨h.toArray⟩ true) true := by
  have stop : ∀ h : List UInt8, Digs h 0 c → h.length ≤ 5 → 4 ≤ h.length → Ev (fun k => gudgeonlaw07_LitHex.l2 k c ⟨h.toArray⟩ true) true := by
    intro h hd hl h4
    have hz : (⟨h.toArray⟩ : ByteArray).size = h.length := ba_size h
    by_cases h5 : (h.length : Int) > 4
    · refine Ev.step (f := fun _ => some true) (fun k => ?_) (Ev.now _)
      simp only [gudgeonlaw07_LitHex.l2]
      rw [if_neg (by omega), if_pos (by omega), if_pos trivial, decide_eq_true (by omega)]
    · refine Ev.step (f := fun k => (lit_Points.f k ((⟨#[92, 117]⟩ : ByteArray) ++ ⟨h.toArray⟩)).bind fun t198 => ((gudgeonref07_Ints.f k t198 [c]).bind fun t204 => (some t204))) (fun k => ?_) ?_
      · simp only [gudgeonlaw07_LitHex.l2, if_true]
        rw [if_neg (by omega), if_neg (by omega), if_pos (by omega)]
      · have hd2 : ((⟨#[92, 117]⟩ : ByteArray) ++ ⟨h.toArray⟩).data.toList = 92 :: 117 :: h := by simp
        have hs2 : ((⟨#[92, 117]⟩ : ByteArray) ++ ⟨h.toArray⟩).size = h.length + 2 := by rw [Lib.size_eq, hd2]; simp
        refine Ev.bind (points_ev _ (by omega)) ?_
        rw [hd2, digs_four hd h0 hc (by omega)]
        refine Ev.bind (ints_ev _ _ (by simp)) ?_
        rw [decide_eq_true rfl]
        exact Ev.now _
  induction d with
  | zero => intro h hd hl h4; exact stop h hd hl (by omega)
  | succ d ih =>
    intro h hd hl h4
    by_cases hlt : h.length < 4
    · have hz : (⟨h.toArray⟩ : ByteArray).size = h.length := ba_size h
      have e : (⟨#[48]⟩ : ByteArray) ++ ⟨h.toArray⟩ = ⟨(48 :: h).toArray⟩ := ba_ext (by simp)
      refine Ev.step (f := fun k => gudgeonlaw07_LitHex.l2 k c ⟨(48 :: h).toArray⟩ true) (fun k => ?_) (ih (48 :: h) hd.zero (by simp; omega) (by simp; omega))
      simp only [gudgeonlaw07_LitHex.l2]
      rw [if_pos (by omega), if_pos (by omega), e]
    · exact stop h hd hl (by omega)
theorem hex_l1 (c : Int) (h0 : 0 ≤ c) (hc : c ≤ 196607) (p : Int) (hp : p ≤ 5) (d : Nat) : ∀ h : List UInt8, Digs h 0 c → h ≠ [] → h.length ≤ 5 → p ≤ h.length + d →
    Ev (fun k => gudgeonlaw07_LitHex.l1 k c p ⟨h.toArray⟩) true := by
  have stop : ∀ h : List UInt8, Digs h 0 c → h ≠ [] → h.length ≤ 5 → p ≤ h.length → Ev (fun k => gudgeonlaw07_LitHex.l1 k c p ⟨h.toArray⟩) true := by
    intro h hd hn hl hpl
    have hz : (⟨h.toArray⟩ : ByteArray).size = h.length := ba_size h
    refine Ev.step (f := fun k => (lit_Points.f k (((⟨#[92, 117, 123]⟩ : ByteArray) ++ ⟨h.toArray⟩) ++ (⟨#[125]⟩ : ByteArray))).bind fun t191 => ((gudgeonref07_Ints.f k t191 [c]).bind fun t197 => (gudgeonlaw07_LitHex.l2 k c ⟨h.toArray⟩ t197))) (fun k => ?_) ?_
    · simp only [gudgeonlaw07_LitHex.l1]
      rw [if_neg (by omega), if_pos (by omega), if_pos (by omega)]
    · have hd2 : (((⟨#[92, 117, 123]⟩ : ByteArray) ++ ⟨h.toArray⟩) ++ (⟨#[125]⟩ : ByteArray)).data.toList = 92 :: 117 :: 123 :: (h ++ [125]) := by simp
      have hs2 : (((⟨#[92, 117, 123]⟩ : ByteArray) ++ ⟨h.toArray⟩) ++ (⟨#[125]⟩ : ByteArray)).size = h.length + 4 := by rw [Lib.size_eq, hd2]; simp
      refine Ev.bind (points_ev _ (by omega)) ?_
      rw [hd2, digs_brace hd hn h0 hc hl]
      refine Ev.bind (ints_ev _ _ (by simp)) ?_
      rw [decide_eq_true rfl]
      exact hex_l2 c h0 hc 4 h hd hl (by omega)
  induction d with
  | zero => intro h hd hn hl h4; exact stop h hd hn hl (by omega)
  | succ d ih =>
    intro h hd hn hl h4
    by_cases hlt : (h.length : Int) < p
    · have hz : (⟨h.toArray⟩ : ByteArray).size = h.length := ba_size h
      have e : (⟨#[48]⟩ : ByteArray) ++ ⟨h.toArray⟩ = ⟨(48 :: h).toArray⟩ := ba_ext (by simp)
      refine Ev.step (f := fun k => gudgeonlaw07_LitHex.l1 k c p ⟨(48 :: h).toArray⟩) (fun k => ?_) (ih (48 :: h) hd.zero (by simp) (by simp; omega) (by simp; omega))
      simp only [gudgeonlaw07_LitHex.l1]
      rw [if_pos (by omega), if_pos (by omega), e]
    · exact stop h hd hn hl (by omega)
theorem hex_l0 (c : Int) (h0 : 0 ≤ c) (hc : c ≤ 196607) (p : Int) (hp0 : 0 ≤ p) (hp : p ≤ 5) (A : ByteArray) (a : Nat → UInt8) (hz : A.size = 16) (ha : ∀ d, d < 16 → A.extract d (d + 1) = ⟨#[a d]⟩ ∧ hexv (a d) = d) (j : Nat) : ∀ (h : List UInt8) (n : Nat), Digs h n c → h.length + j = 5 → n < 16 ^ j →
    Ev (fun k => gudgeonlaw07_LitHex.l0 k c p A ⟨h.toArray⟩ (n : Int)) true := by
  have stop : ∀ (h : List UInt8), Digs h 0 c → h ≠ [] → h.length ≤ 5 → Ev (fun k => gudgeonlaw07_LitHex.l0 k c p A ⟨h.toArray⟩ 0) true := by
    intro h hd hn hl
    refine Ev.step (f := fun k => gudgeonlaw07_LitHex.l1 k c p ⟨h.toArray⟩) (fun k => ?_) (hex_l1 c h0 hc p hp 5 h hd hn hl (by omega))
    simp only [gudgeonlaw07_LitHex.l0]
    rw [if_neg (by decide), if_neg (by rw [Lib.toList_data]; simpa using hn)]
  induction j with
  | zero =>
    intro h n hd hl hn
    rw [Nat.pow_zero] at hn
    obtain rfl : n = 0 := by omega
    exact stop h hd (by intro e; rw [e] at hl; simp at hl) (by omega)
  | succ j ih =>
    intro h n hd hl hn
    have hp' : n / 16 < 16 ^ j := by rw [Nat.pow_succ] at hn; omega
    clear hn
    have hs : (⟨h.toArray⟩ : ByteArray).size = h.length := ba_size h
    have hq : Int.tdiv (n : Int) 16 = ((n / 16 : Nat) : Int) := by rw [Int.tdiv_eq_ediv_of_nonneg (by omega)]; omega
    have hr : Int.tmod (n : Int) 16 = ((n % 16 : Nat) : Int) := by rw [Int.tmod_eq_emod_of_nonneg (by omega)]; omega
    obtain ⟨ha1, ha2⟩ := ha (n % 16) (Nat.mod_lt _ (by decide))
    have hnb : (n : Int) / 16 * 16 + (n : Int) % 16 = n := by omega
    have hd' : Digs (a (n % 16) :: h) ((n / 16 : Nat) : Int) c := ⟨by
        simp only [numF]
        rw [ha2, if_neg (by omega), ← hd.val]
        congr 1
        omega, fun b hb => by
        rcases List.mem_cons.1 hb with rfl | hb
        · rw [ha2]; omega
        · exact hd.all b hb⟩
    have hn : n ≤ 100000000 ∨ 100000000 < n := by omega
    have e : (⟨#[a (n % 16)]⟩ : ByteArray) ++ ⟨h.toArray⟩ = ⟨(a (n % 16) :: h).toArray⟩ := ba_ext (by simp)
    have hj : j ≤ 4 := by omega
    have hnn : n / 16 < 65536 := Nat.lt_of_lt_of_le hp' (Nat.pow_le_pow_right (n := 16) (by omega) hj)
    have step : ∀ k, (if 0 ≤ (Int.tmod (n : Int) 16) then (if (Int.tmod (n : Int) 16) ≤ (wrap64 ((Int.tmod (n : Int) 16) + 1)) then (if (wrap64 ((Int.tmod (n : Int) 16) + 1)) ≤ (A.size : Int) then (if (((wrap64 ((Int.tmod (n : Int) 16) + 1)) : Int).toNat - ((Int.tmod (n : Int) 16) : Int).toNat) + (⟨h.toArray⟩ : ByteArray).size ≤ 9223372036854775807 then (gudgeonlaw07_LitHex.l0 k c p A ((A.extract ((Int.tmod (n : Int) 16) : Int).toNat ((wrap64 ((Int.tmod (n : Int) 16) + 1)) : Int).toNat) ++ ⟨h.toArray⟩) (wrap64 (Int.tdiv (n : Int) 16))) else (none)) else (none)) else (none)) else (none)) = gudgeonlaw07_LitHex.l0 k c p A ⟨(a (n % 16) :: h).toArray⟩ ((n / 16 : Nat) : Int) := by
      intro k
      rw [hq, hr, w64 (x := (((n % 16 : Nat) : Int) + 1)) (by omega) (by omega), w64 (x := ((n / 16 : Nat) : Int)) (by omega) (by omega), if_pos (by omega), if_pos (by omega), if_pos (by omega), Int.toNat_natCast, show (((n % 16 : Nat) : Int) + 1).toNat = n % 16 + 1 by omega, if_pos (by omega), ha1, e]
    have IH := ih (a (n % 16) :: h) (n / 16) hd' (by simp; omega) hp'
    by_cases hn0 : (n : Int) > 0
    · refine Ev.step (f := fun k => gudgeonlaw07_LitHex.l0 k c p A ⟨(a (n % 16) :: h).toArray⟩ ((n / 16 : Nat) : Int)) (fun k => ?_) IH
      simp only [gudgeonlaw07_LitHex.l0]
      rw [if_pos hn0]
      exact step k
    · by_cases hne : h = []
      · refine Ev.step (f := fun k => gudgeonlaw07_LitHex.l0 k c p A ⟨(a (n % 16) :: h).toArray⟩ ((n / 16 : Nat) : Int)) (fun k => ?_) IH
        simp only [gudgeonlaw07_LitHex.l0]
        rw [if_neg hn0, if_pos (by rw [Lib.toList_data]; simpa using hne)]
        exact step k
      · obtain rfl : n = 0 := by omega
        exact stop h hd hne (by omega)
def hexU (n : Nat) : UInt8 := [48, 49, 50, 51, 52, 53, 54, 55, 56, 57, 65, 66, 67, 68, 69, 70].getD n 0
theorem alph_low (d : Nat) (h : d < 16) : (⟨#[48, 49, 50, 51, 52, 53, 54, 55, 56, 57, 97, 98, 99, 100, 101, 102]⟩ : ByteArray).extract d (d + 1) = ⟨#[hexd d]⟩ ∧ hexv (hexd d) = d := by
  have a : ∀ n : Fin 16, ((⟨#[48, 49, 50, 51, 52, 53, 54, 55, 56, 57, 97, 98, 99, 100, 101, 102]⟩ : ByteArray).extract n.val (n.val + 1)).data.toList = [hexd n.val] ∧ hexv (hexd n.val) = n.val := by decide
  exact ⟨ba_ext (a ⟨d, h⟩).1, (a ⟨d, h⟩).2⟩
theorem alph_up (d : Nat) (h : d < 16) : (⟨#[48, 49, 50, 51, 52, 53, 54, 55, 56, 57, 65, 66, 67, 68, 69, 70]⟩ : ByteArray).extract d (d + 1) = ⟨#[hexU d]⟩ ∧ hexv (hexU d) = d := by
  have a : ∀ n : Fin 16, ((⟨#[48, 49, 50, 51, 52, 53, 54, 55, 56, 57, 65, 66, 67, 68, 69, 70]⟩ : ByteArray).extract n.val (n.val + 1)).data.toList = [hexU n.val] ∧ hexv (hexU n.val) = n.val := by decide
  exact ⟨ba_ext (a ⟨d, h⟩).1, (a ⟨d, h⟩).2⟩
theorem LitHex : gudgeonlaw07_LitHex.Pure := by
  intro c up p _ _
  refine Ev.rounds ?_
  unfold gudgeonlaw07_LitHex.f
  refine Ev.bind awake_ev ?_
  simp only [if_true]
  have out : ∀ x : Bool, x = true → Ev (fun k => gudgeonlaw07_LitHex.j0 k c up p true x) true := by
    intro x hx
    refine Ev.step (f := fun _ => some true) (fun k => ?_) (Ev.now _)
    simp only [gudgeonlaw07_LitHex.j0]
    rw [if_pos hx]
  by_cases h1 : c < 0
  · simp only [if_pos h1]; exact out true rfl
  · simp only [if_neg h1]
    by_cases h2 : c > 196607
    · simp only [if_pos h2]; exact out true rfl
    · simp only [if_neg h2]
      by_cases h3 : p < 0
      · simp only [if_pos h3]; exact out true rfl
      · simp only [if_neg h3]
        by_cases h4 : p > 5
        · exact out _ (decide_eq_true h4)
        · simp only [decide_eq_false h4]
          have hcn : ((c.toNat : Nat) : Int) = c := by omega
          have hd : Digs [] ((c.toNat : Nat) : Int) c := ⟨by simp only [numF]; exact hcn, fun b hb => absurd hb (by simp)⟩
          have fin : ∀ (A : ByteArray) (a : Nat → UInt8), A.size = 16 → (∀ d, d < 16 → A.extract d (d + 1) = ⟨#[a d]⟩ ∧ hexv (a d) = d) → Ev (fun k => gudgeonlaw07_LitHex.j1 k c p A) true := by
            intro A a hz ha
            have := hex_l0 c (by omega) (by omega) p (by omega) (by omega) A a hz ha 5 [] c.toNat hd (by simp) (by omega)
            rw [hcn] at this
            refine Ev.step (f := fun k => gudgeonlaw07_LitHex.l0 k c p A ⟨#[]⟩ c) (fun k => ?_) this
            simp only [gudgeonlaw07_LitHex.j1]
          cases up with
          | true =>
            refine Ev.step (f := fun k => gudgeonlaw07_LitHex.j1 k c p (⟨#[48, 49, 50, 51, 52, 53, 54, 55, 56, 57, 65, 66, 67, 68, 69, 70]⟩ : ByteArray)) (fun k => ?_) (fin _ hexU rfl alph_up)
            simp only [gudgeonlaw07_LitHex.j0, if_true]
            rw [if_neg (by decide)]
          | false =>
            refine Ev.step (f := fun k => gudgeonlaw07_LitHex.j1 k c p (⟨#[48, 49, 50, 51, 52, 53, 54, 55, 56, 57, 97, 98, 99, 100, 101, 102]⟩ : ByteArray)) (fun k => ?_) (fin _ hexd rfl alph_low)
            simp only [gudgeonlaw07_LitHex.j0]
            rw [if_neg (by decide), if_neg (by decide)]
end Go.Proofs.YtjpcbflkgldokaaDoor.S
