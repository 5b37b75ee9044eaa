import Derived.Test.YtlfpnohpcemkgaaDoorNatB
import Derived.Test.YtlfpnohpcemkgaaDoorPAx11
/- nat.Sub, as a number. -/
namespace Go.Proofs.YtlfpnohpcemkgaaDoor.V
set_option linter.unusedVariables false
set_option linter.unusedSimpArgs false
open Go.RowKit Go.Proofs.YtlfpnohpcemkgaaDoor.PA Go.Proofs.YtlfpnohpcemkgaaDoor.H Go.Proofs.YtlfpnohpcemkgaaDoorW.PrintWords Go.Proofs.YtlfpnohpcemkgaaDoorW.PrintLast Go.Proofs.YtlfpnohpcemkgaaDoorW.PrintMore

/-! ### differences -/
theorem step_sub {P V A Bv c x y q r : Int} (h : V - P * c = A - Bv) (e : r - 4294967296 * q = x - y - c) : V + P * r - (4294967296 * P) * q = A + P * x - (Bv + P * y) := by grind
theorem sub_l0 (a b : List Int) (ha : Lim a) (hb : Lim b) (hab : val b ≤ val a) (hn : a.length ≤ 1000000000000) (d : Nat) : ∀ (i : Nat) (out : List Int) (c : Int), i + d = a.length → out.length = a.length → Lim out → 0 ≤ c → c ≤ 1 → val (out.take i) - pw i * c = val (a.take i) - val (b.take i) →
    Ev (fun k => nat_Sub.l0 k a b out c (a.length : Int) (i : Int)) (dig (val a - val b), 0) := by
  induction d with
  | zero =>
    intro i out c hi ho hL c0 c1 hv
    obtain rfl : i = a.length := by omega
    refine Ev.step (f := fun _ => some _) (fun k => ?_) (Ev.now _)
    simp only [nat_Sub.l0]
    rw [if_neg (by omega), norm_ev out hL (by omega)]
    simp only [Option.bind_some]
    rw [List.take_of_length_le (by omega), List.take_of_length_le (l := a) (by omega)] at hv
    have hbt : val (b.take a.length) = val b := by
      by_cases hl : b.length ≤ a.length
      · rw [List.take_of_length_le hl]
      · have e := val_take_drop b a.length (by omega)
        have h1 := val_lt ha
        have h2 := val_nonneg (hb.take a.length)
        have h3 := val_nonneg (hb.drop a.length)
        have h4 := pw_pos a.length
        by_cases hz : val (b.drop a.length) = 0
        · rw [hz] at e; omega
        · have : pw a.length * 1 ≤ pw a.length * val (b.drop a.length) := Int.mul_le_mul_of_nonneg_left (by omega) (by omega)
          omega
    rw [hbt] at hv
    have h1 := val_lt hL
    rw [ho] at h1
    have hc : c = 0 := by
      by_cases hc : c = 0
      · exact hc
      · have : c = 1 := by omega
        subst this
        omega
    subst hc
    congr 3
    omega
  | succ d ih =>
    intro i out c hi ho hL c0 c1 hv
    have ga := ha.getD i
    have gb := hb.getD i
    have hio : i < out.length := by omega
    have e1 : IntKind.u64.wrap ((IntKind.u64.wrap (a.getD i 0 - b.getD i 0)) - c) = (a.getD i 0 - b.getD i 0 - c) % 18446744073709551616 := by
      rw [u64e, u64e]; omega
    refine Ev.step (fun k => ?_) (ih (i + 1) (out.set i ((a.getD i 0 - b.getD i 0 - c) % 18446744073709551616 % 4294967296)) ((a.getD i 0 - b.getD i 0 - c) % 18446744073709551616 / 9223372036854775808) (by omega) (by simpa using ho) (hL.set i (by omega) (by omega)) (by omega) (by omega) ?_)
    · simp only [nat_Sub.l0]
      rw [if_pos (by omega), limb_ev a i ha, limb_ev b i hb]
      simp only [Option.bind_some]
      rw [if_pos (by omega), if_pos (by omega), e1, w64 (by omega) (by omega), Int.toNat_natCast]
      rfl
    · rw [val_set_take _ _ _ hio, val_take_getD a, val_take_getD b, pw_succ]
      exact step_sub hv (by omega)
theorem sub_ev (a b : List Int) (ha : Lim a) (hb : Lim b) (hna : a.length < 1000000000) (hnb : b.length < 1000000000) : Ev (fun k => nat_Sub.f k a b) (if val a < val b then ([], 6) else (dig (val a - val b), 0)) := by
  unfold nat_Sub.f
  refine Ev.bind (f := fun k t => _) (cmp_ev a b ha hb (by omega) (by omega)) ?_
  unfold cmpI
  by_cases h : val a < val b
  · rw [if_pos h, if_pos h]
    exact Ev.congr (fun k => by rw [if_pos (by decide)]) (Ev.now _)
  · rw [if_neg h, if_neg h]
    have := sub_l0 a b ha hb (by omega) (by omega) a.length 0 (List.replicate a.length 0) 0 (by omega) (by simp) (Lim.zeros _) (by omega) (by omega) (by simp [val])
    refine Ev.congr (fun k => ?_) this
    rw [if_neg (by split <;> decide), if_pos (by omega), if_pos (by omega)]
    simp only [Option.bind_some, Int.toNat_natCast, List.length_replicate]
    rfl
end Go.Proofs.YtlfpnohpcemkgaaDoor.V
