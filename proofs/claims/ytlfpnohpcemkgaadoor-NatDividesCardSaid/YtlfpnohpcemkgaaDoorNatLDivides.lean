import Derived.Test.YtlfpnohpcemkgaaDoorNatL
import Derived.Test.YtlfpnohpcemkgaaDoorNatF
import Derived.Test.YtlfpnohpcemkgaaDoorPAx10
/- The law NatDivides, in plain Lean. -/
namespace Go.Proofs.YtlfpnohpcemkgaaDoor.S
set_option linter.unusedVariables false
set_option linter.unusedSimpArgs false
open Go.RowKit Go.Proofs.YtlfpnohpcemkgaaDoor.V Go.Proofs.YtlfpnohpcemkgaaDoor.PA Go.Proofs.YtlfpnohpcemkgaaDoor.H Go.Proofs.YtlfpnohpcemkgaaDoorW.PrintWords Go.Proofs.YtlfpnohpcemkgaaDoorW.PrintLast Go.Proofs.YtlfpnohpcemkgaaDoorW.PrintMore

theorem NatDivides : gudgeonlaw01_NatDivides.Pure := by
  intro a b _ _ wa _ _ wb
  have ha := lim_wf wa
  have hb := lim_wf wb
  refine Ev.rounds ?_
  refine Ev.congr (fun k => rfl) (Ev.bind awake_ev (evC (few_ev a b 30) (evP rfl ?_)))
  by_cases hf : a.length ≤ 30 ∧ b.length ≤ 30
  · rw [decide_eq_true hf.1, decide_eq_true hf.2]
    have va := val_nonneg ha
    have vb := val_nonneg hb
    have da := dig_length a ha
    have db := dig_length b hb
    refine Ev.step (fun k => by rw [gudgeonlaw01_NatDivides.j0]) ?_
    refine evN (by decide) ?_
    refine Ev.bind (gcd_ev a b ha hb (by omega) (by omega)) ?_
    obtain ⟨x, hx⟩ : ∃ x : Nat, val a = x := ⟨(val a).toNat, by omega⟩
    obtain ⟨y, hy⟩ : ∃ y : Nat, val b = y := ⟨(val b).toNat, by omega⟩
    have hgi : gcdI (val a) (val b) = (Nat.gcd x y : Nat) := by unfold gcdI; rw [hx, hy]; simp
    obtain ⟨g, hg⟩ : ∃ g, g = Nat.gcd x y := ⟨_, rfl⟩
    rw [hgi, ← hg]
    by_cases hz : g = 0
    · have hxy : x = 0 ∧ y = 0 := by
        have := Nat.gcd_eq_zero_iff.1 (hg ▸ hz : Nat.gcd x y = 0)
        exact this
      rw [hz]
      refine evP (by simp [show ((0 : Nat) : Int) = 0 from rfl, dig_zero]) ?_
      refine evC (norm_ev a ha (by omega)) ?_
      rw [hx, hxy.1]
      refine evP (by simp [show ((0 : Nat) : Int) = 0 from rfl, dig_zero]) ?_
      refine evC (norm_ev b hb (by omega)) ?_
      rw [hy, hxy.2]
      exact evR (by simp [show ((0 : Nat) : Int) = 0 from rfl, dig_zero])
    · have hg0 : (0 : Int) ≤ g := by omega
      have hgz : (g : Int) ≠ 0 := by omega
      obtain ⟨p, hp⟩ : ∃ p, x = g * p := by have := Nat.gcd_dvd_left x y; rw [← hg] at this; exact this
      obtain ⟨q, hq⟩ : ∃ q, y = g * q := by have := Nat.gcd_dvd_right x y; rw [← hg] at this; exact this
      have hne : ¬ ((dig (g : Int)).length : Int) = 0 := by
        intro h
        have := List.eq_nil_of_length_eq_zero (show (dig (g : Int)).length = 0 by omega)
        exact hgz ((dig_eq_nil hg0).1 this)
      have lg : (dig (g : Int)).length ≤ 30 := by
        have hxz : x ≠ 0 ∨ y ≠ 0 := by
          by_cases h : x = 0
          · right; intro h2; apply hz; rw [hg, h, h2]; rfl
          · exact .inl h
        rcases hxz with h | h
        · have h1 := Nat.gcd_le_left y (show 0 < x by omega)
          have := len_le (x := (g : Int)) (y := val a) hg0 (by omega)
          omega
        · have h1 := Nat.gcd_le_right x (show 0 < y by omega)
          have := len_le (x := (g : Int)) (y := val b) hg0 (by omega)
          omega
      have ea : val a = (p : Int) * g := by rw [hx, hp]; rw [Nat.mul_comm]; simp
      have eb : val b = (q : Int) * g := by rw [hy, hq]; rw [Nat.mul_comm]; simp
      have Da := divmod_ev a (dig (g : Int)) ha (dig_lim _) (by omega) (by omega)
      rw [val_dig hg0, if_neg hgz, ea, Int.mul_ediv_cancel _ hgz, Int.mul_emod_left, dig_zero] at Da
      have Db := divmod_ev b (dig (g : Int)) hb (dig_lim _) (by omega) (by omega)
      rw [val_dig hg0, if_neg hgz, eb, Int.mul_ediv_cancel _ hgz, Int.mul_emod_left, dig_zero] at Db
      have lp : (dig (p : Int)).length ≤ 30 := by
        have : (p : Int) * 1 ≤ (p : Int) * g := Int.mul_le_mul_of_nonneg_left (by omega) (by omega)
        have := len_le (x := (p : Int)) (y := val a) (by omega) (by omega)
        omega
      have lq : (dig (q : Int)).length ≤ 30 := by
        have : (q : Int) * 1 ≤ (q : Int) * g := Int.mul_le_mul_of_nonneg_left (by omega) (by omega)
        have := len_le (x := (q : Int)) (y := val b) (by omega) (by omega)
        omega
      have G := gcd_ev (dig (p : Int)) (dig (q : Int)) (dig_lim _) (dig_lim _) (by omega) (by omega)
      rw [val_dig (by omega), val_dig (by omega)] at G
      have g1 : gcdI (p : Int) (q : Int) = 1 := by
        unfold gcdI
        simp only [Int.toNat_natCast]
        have : g * Nat.gcd p q = g * 1 := by rw [← Nat.gcd_mul_left, ← hp, ← hq, ← hg, Nat.mul_one]
        have := Nat.eq_of_mul_eq_mul_left (show 0 < g by omega) this
        omega
      rw [g1, dig_one (x := 1) (by omega) (by omega)] at G
      refine evN hne ?_
      refine Ev.bind Da (Ev.bind Db ?_)
      refine evP rfl (evP rfl ?_)
      refine Ev.bind G ?_
      refine Ev.bind (text_ev [1] (lim_one (by omega) (by omega)) (by simp)) (evR ?_)
      rw [Lib.toList_data, val_one]
      have e : textL (Int.toNat 1) = [49] := by
        rw [show (1 : Int).toNat = 1 from rfl]
        unfold textL
        rw [if_neg (by omega), decL_pos (by omega)]
        simp only [Nat.reduceDiv, Nat.reduceMod, Nat.reduceAdd]
        rw [decL_zero]
        rfl
      simp only [e]
      rfl
  · rw [few_no hf]
    exact Ev.step (f := fun _ => some true) (fun k => rfl) (Ev.now _)
end Go.Proofs.YtlfpnohpcemkgaaDoor.S
