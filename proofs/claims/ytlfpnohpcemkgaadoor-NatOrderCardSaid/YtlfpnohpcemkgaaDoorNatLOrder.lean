import Derived.Test.YtlfpnohpcemkgaaDoorNatL
import Derived.Test.YtlfpnohpcemkgaaDoorNatC
import Derived.Test.YtlfpnohpcemkgaaDoorNatG
import Derived.Test.YtlfpnohpcemkgaaDoorPAx12
/- The law NatOrder, in plain Lean. -/
namespace Go.Proofs.YtlfpnohpcemkgaaDoor.S
set_option linter.unusedVariables false
set_option linter.unusedSimpArgs false
open Go.RowKit Go.Proofs.YtlfpnohpcemkgaaDoor.V Go.Proofs.YtlfpnohpcemkgaaDoor.PA Go.Proofs.YtlfpnohpcemkgaaDoor.H Go.Proofs.YtlfpnohpcemkgaaDoorW.PrintWords Go.Proofs.YtlfpnohpcemkgaaDoorW.PrintLast Go.Proofs.YtlfpnohpcemkgaaDoorW.PrintMore

theorem NatOrder : gudgeonlaw01_NatOrder.Pure := by
  intro a b c _ _ wa _ _ wb _ _ wc
  have ha := lim_wf wa
  have hb := lim_wf wb
  have hc := lim_wf wc
  refine Ev.rounds ?_
  refine Ev.congr (fun k => rfl) (Ev.bind awake_ev (evC (few_ev a b 60) (evP rfl ?_)))
  by_cases hf : a.length ≤ 60 ∧ b.length ≤ 60
  · rw [decide_eq_true hf.1, decide_eq_true hf.2]
    refine evP rfl ?_
    by_cases hf2 : (c.length : Int) > 60
    · rw [decide_eq_true hf2]
      exact Ev.step (f := fun _ => some true) (fun k => rfl) (Ev.now _)
    rw [decide_eq_false hf2]
    have va := val_nonneg ha
    have vb := val_nonneg hb
    have vc := val_nonneg hc
    have da := dig_length a ha
    have db := dig_length b hb
    have dc := dig_length c hc
    have hab : 0 ≤ val a + val b := by omega
    have hbc : 0 ≤ val b + val c := by omega
    have mab := Int.mul_nonneg va vb
    have mbc := Int.mul_nonneg vb vc
    have mac := Int.mul_nonneg va vc
    have l1 := len_add va vb
    have l2 := len_add vb vc
    have l3 := len_add hab vc
    have l4 := len_mul va vb
    have l5 := len_mul vb vc
    have l6 := len_mul va vc
    have l7 := len_mul mab vc
    have l8 := len_mul va mbc
    have l9 := len_mul va hbc
    have l10 := len_add mab mac
    have Ab := add_ev a b ha hb (by omega) (by omega)
    have Sb := sub_ev (dig (val a + val b)) b (dig_lim _) hb (by omega) (by omega)
    rw [val_dig hab, if_neg (by omega), show val a + val b - val b = val a by omega] at Sb
    have A2 := add_ev (dig (val a + val b)) c (dig_lim _) hc (by omega) (by omega)
    rw [val_dig hab] at A2
    have A3 := add_ev a (dig (val b + val c)) ha (dig_lim _) (by omega) (by omega)
    rw [val_dig hbc] at A3
    have M2 := mul_ev (dig (val a * val b)) c (dig_lim _) hc (by omega) (by omega)
    rw [val_dig mab] at M2
    have M3 := mul_ev a (dig (val b * val c)) ha (dig_lim _) (by omega) (by omega)
    rw [val_dig mbc] at M3
    have M4 := mul_ev a (dig (val b + val c)) ha (dig_lim _) (by omega) (by omega)
    rw [val_dig hbc] at M4
    have A4 := add_ev (dig (val a * val b)) (dig (val a * val c)) (dig_lim _) (dig_lim _) (by omega) (by omega)
    rw [val_dig mab, val_dig mac] at A4
    refine Ev.step (fun k => by rw [gudgeonlaw01_NatOrder.j0]) ?_
    refine evN (by decide) ?_
    refine Ev.bind Ab (Ev.bind Sb ?_)
    refine Ev.bind Ab (Ev.bind (add_ev b a hb ha (by omega) (by omega)) ?_)
    refine Ev.bind (same_self _ _ (by rw [Int.add_comm]) (by omega)) ?_
    refine Ev.bind Ab (Ev.bind A2 (Ev.bind (add_ev b c hb hc (by omega) (by omega)) (Ev.bind A3 ?_)))
    refine Ev.bind (same_self _ _ (by rw [Int.add_assoc]) (by omega)) ?_
    refine Ev.bind (mul_ev a b ha hb (by omega) (by omega)) (Ev.bind (mul_ev b a hb ha (by omega) (by omega)) ?_)
    refine Ev.bind (same_self _ _ (by rw [Int.mul_comm]) (by omega)) ?_
    refine Ev.bind (mul_ev a b ha hb (by omega) (by omega)) (Ev.bind M2 (Ev.bind (mul_ev b c hb hc (by omega) (by omega)) (Ev.bind M3 ?_)))
    refine Ev.bind (same_self _ _ (by rw [Int.mul_assoc]) (by omega)) ?_
    refine Ev.bind (add_ev b c hb hc (by omega) (by omega)) (Ev.bind M4 ?_)
    refine Ev.bind (mul_ev a b ha hb (by omega) (by omega)) (Ev.bind (mul_ev a c ha hc (by omega) (by omega)) (Ev.bind A4 ?_))
    refine Ev.bind (same_self _ _ (by rw [Int.mul_add]) (by omega)) ?_
    refine evC (norm_ev a ha (by omega)) ?_
    refine Ev.bind (same_self _ _ rfl (by show (dig (val a)).length ≤ _; omega)) ?_
    refine evP rfl (evP rfl (evP rfl (evP rfl (evP rfl (evP rfl (evP rfl ?_))))))
    refine Ev.bind (cmp_ev a b ha hb (by omega) (by omega)) (Ev.bind (cmp_ev b a hb ha (by omega) (by omega)) (evR ?_))
    unfold cmpI
    by_cases h1 : val a < val b
    · rw [if_pos h1, if_neg (by omega), if_pos h1, wm1]; rfl
    · by_cases h2 : val b < val a
      · rw [if_neg h1, if_pos h2, if_pos h2, show -(-1 : Int) = 1 from rfl, w01]; rfl
      · rw [if_neg h1, if_neg h2, if_neg h2, if_neg h1, show -(0 : Int) = 0 from rfl, wm0]; rfl
  · rw [few_no hf]
    refine evN (by decide) ?_
    exact Ev.step (f := fun _ => some true) (fun k => rfl) (Ev.now _)
end Go.Proofs.YtlfpnohpcemkgaaDoor.S
