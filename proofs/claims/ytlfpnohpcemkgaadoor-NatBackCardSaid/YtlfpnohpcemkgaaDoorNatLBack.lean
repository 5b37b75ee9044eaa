import Derived.Test.YtlfpnohpcemkgaaDoorNatL
import Derived.Test.YtlfpnohpcemkgaaDoorNatE
import Derived.Test.YtlfpnohpcemkgaaDoorPAx8
/- The law NatBack, in plain Lean. -/
namespace Go.Proofs.YtlfpnohpcemkgaaDoor.S
set_option linter.unusedVariables false
set_option linter.unusedSimpArgs false
open Go.RowKit Go.Proofs.YtlfpnohpcemkgaaDoor.V Go.Proofs.YtlfpnohpcemkgaaDoor.PA Go.Proofs.YtlfpnohpcemkgaaDoor.H Go.Proofs.YtlfpnohpcemkgaaDoorW.PrintWords Go.Proofs.YtlfpnohpcemkgaaDoorW.PrintLast Go.Proofs.YtlfpnohpcemkgaaDoorW.PrintMore

theorem NatBack : gudgeonlaw01_NatBack.Pure := by
  intro a b _ _ wa _ _ wb
  have ha := lim_wf wa
  have hb := lim_wf wb
  refine Ev.rounds ?_
  refine Ev.congr (fun k => rfl) (Ev.bind awake_ev (evC (few_ev a b 200) (evP rfl ?_)))
  by_cases hf : a.length ≤ 200 ∧ b.length ≤ 200
  · rw [decide_eq_true hf.1, decide_eq_true hf.2]
    have va := val_nonneg ha
    have vb := val_nonneg hb
    have da := dig_length a ha
    have db := dig_length b hb
    refine Ev.step (fun k => by rw [gudgeonlaw01_NatBack.j0]) ?_
    refine evN (by decide) ?_
    refine Ev.bind (divmod_ev a b ha hb (by omega) (by omega)) ?_
    by_cases hz : val b = 0
    · simp only [if_pos hz]
      refine evN (by decide) (evP (by first | rfl | trivial) ?_)
      refine evC (norm_ev b hb (by omega)) ?_
      rw [hz, dig_zero]
      exact evP rfl (evP rfl (Ev.now _))
    · simp only [if_neg hz]
      have q0 : 0 ≤ val a / val b := Int.ediv_nonneg va vb
      have m0 := Int.emod_nonneg (val a) hz
      have m1 := Int.emod_lt_of_pos (val a) (show 0 < val b by omega)
      have lq := len_le q0 (Int.ediv_le_self (val b) va)
      have lr := len_le m0 (show val a % val b ≤ val b by omega)
      have hm := mul_ev (dig (val a / val b)) b (dig_lim _) hb (by omega) (by omega)
      rw [val_dig q0] at hm
      have hp0 := Int.mul_nonneg q0 vb
      have hdm : val a / val b * val b + val a % val b = val a := by
        have := Int.mul_ediv_add_emod (val a) (val b)
        rw [Int.mul_comm] at this
        exact this
      have lp := len_le hp0 (show val a / val b * val b ≤ val a by omega)
      have hs := add_ev (dig (val a / val b * val b)) (dig (val a % val b)) (dig_lim _) (dig_lim _) (by omega) (by omega)
      rw [val_dig hp0, val_dig m0, hdm] at hs
      have hc := cmp_ev (dig (val a)) a (dig_lim _) ha (by omega) (by omega)
      rw [val_dig va] at hc
      have hc2 := cmp_ev (dig (val a % val b)) b (dig_lim _) hb (by omega) (by omega)
      rw [val_dig m0] at hc2
      refine evP (by first | rfl | trivial) ?_
      refine Ev.bind hm ?_
      refine Ev.bind hs ?_
      refine Ev.bind hc ?_
      refine evP (by unfold cmpI; rw [if_neg (by omega), if_neg (by omega)]) ?_
      refine Ev.bind hc2 ?_
      exact evR (by unfold cmpI; rw [if_pos m1]; rfl)
  · rw [few_no hf]
    exact Ev.step (f := fun _ => some true) (fun k => rfl) (Ev.now _)
end Go.Proofs.YtlfpnohpcemkgaaDoor.S
