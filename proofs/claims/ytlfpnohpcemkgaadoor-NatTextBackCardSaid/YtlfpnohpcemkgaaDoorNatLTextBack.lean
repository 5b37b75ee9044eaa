import Derived.Test.YtlfpnohpcemkgaaDoorNatL
import Derived.Test.YtlfpnohpcemkgaaDoorNatF
import Derived.Test.YtlfpnohpcemkgaaDoorPAx9
/- The law NatTextBack, in plain Lean. -/
namespace Go.Proofs.YtlfpnohpcemkgaaDoor.S
set_option linter.unusedVariables false
set_option linter.unusedSimpArgs false
open Go.RowKit Go.Proofs.YtlfpnohpcemkgaaDoor.V Go.Proofs.YtlfpnohpcemkgaaDoor.PA Go.Proofs.YtlfpnohpcemkgaaDoor.H Go.Proofs.YtlfpnohpcemkgaaDoorW.PrintWords Go.Proofs.YtlfpnohpcemkgaaDoorW.PrintLast Go.Proofs.YtlfpnohpcemkgaaDoorW.PrintMore

theorem pw_lt_10 (n : Nat) : pw n ≤ ((10 ^ (10 * n) : Nat) : Int) := by
  induction n with
  | zero => decide
  | succ n ih =>
    have e : 10 ^ (10 * (n + 1)) = 10 ^ (10 * n) * 10000000000 := by rw [show 10 * (n + 1) = 10 * n + 10 by omega, Nat.pow_add]
    rw [pw_succ, e, Int.natCast_mul]
    omega
theorem textL_length (n m : Nat) (h : (n : Int) < pw m) : (textL n).length ≤ 10 * m + 1 := by
  unfold textL
  split
  · simp
  · have := pw_lt_10 m
    have := decL_length n (10 * m) (by omega)
    omega
theorem dig_lt_10 (l : List UInt8) : ∀ (v : Int) (m : Nat), l.all isD = true → 0 ≤ v → v < pw m → decV v l < pw (m + l.length) := by
  induction l with
  | nil => intro v m _ _ h; exact h
  | cons c l ih =>
    intro v m ha h0 h1
    rw [List.all_cons, Bool.and_eq_true] at ha
    have hc : 48 ≤ c.toNat ∧ c.toNat ≤ 57 := by have := ha.1; unfold isD at this; simpa using this
    have := ih (v * 10 + (c.toNat - 48)) (m + 1) ha.2 (by omega) (by rw [pw_succ]; omega)
    simp only [decV, List.length_cons]
    rw [show m + (l.length + 1) = m + 1 + l.length by omega]
    exact this
theorem parseR_all (l : List UInt8) (he : (parseR l).2 = 0) : l.all isD = true := by
  unfold parseR at he
  split at he
  · simp at he
  · split at he
    · simp at he
    · split at he
      · simp at he
      · split at he
        · assumption
        · simp at he
theorem NatTextBack : gudgeonlaw01_NatTextBack.Pure := by
  intro a s _ _ wa hss
  have ha := lim_wf wa
  have hsz := size_len s
  refine Ev.rounds ?_
  refine Ev.congr (fun k => rfl) (Ev.bind awake_ev (evP rfl ?_))
  have hno : Ev (fun k => gudgeonlaw01_NatTextBack.j0 k a s true true) true := Ev.step (f := fun _ => some true) (fun k => rfl) (Ev.now _)
  by_cases hf : (a.length : Int) > 60
  · exact evP hf hno
  refine evN hf ?_
  by_cases hf2 : (s.size : Int) > 600
  · rw [decide_eq_true hf2]; exact hno
  rw [decide_eq_false hf2]
  have va := val_nonneg ha
  have hvl := val_lt ha
  have hpw : pw a.length ≤ pw 60 := pw_le_pw (by omega)
  have htl := textL_length (val a).toNat 60 (by omega)
  have hsz2 : (⟨(textL (val a).toNat).toArray⟩ : ByteArray).size ≤ 1000000000 := by rw [size_len]; simp; omega
  have hp := parse_ev (⟨(textL (val a).toNat).toArray⟩ : ByteArray) hsz2
  rw [show (⟨(textL (val a).toNat).toArray⟩ : ByteArray).data.toList = textL (val a).toNat from rfl, parse_text _ (by omega), show (((val a).toNat : Nat) : Int) = val a by omega] at hp
  have hdl := dig_length a ha
  refine Ev.step (fun k => by rw [gudgeonlaw01_NatTextBack.j0]) ?_
  refine evN (by decide) ?_
  refine Ev.bind (text_ev a ha (by omega)) ?_
  refine Ev.bind hp ?_
  refine evC (norm_ev a ha (by omega)) ?_
  refine Ev.bind (same_self _ _ rfl (by show (dig (val a)).length ≤ _; omega)) ?_
  refine Ev.bind (parse_ev s (by omega)) ?_
  by_cases he : (parseR s.data.toList).2 = 0
  · obtain ⟨h1, h2, h3⟩ := text_parse s.data.toList he
    have hlt := dig_lt_10 s.data.toList 0 0 (parseR_all _ he) (by omega) (by rw [pw_zero]; omega)
    have hlen := dig_length_le h3 hlt
    have ht := text_ev (dig (decV 0 s.data.toList)) (dig_lim _) (by omega)
    rw [val_dig h3, h1] at ht
    rw [h2]
    refine evP rfl (evP rfl (evP rfl ?_))
    refine Ev.bind ht (evR ?_)
    rw [Lib.toList_data]
    try rw [Lib.toList_data]
    simp
  · rw [parse_err _ he]
    exact evN (by decide) (evP rfl (evP rfl (evP rfl (evR (by simp)))))
end Go.Proofs.YtlfpnohpcemkgaaDoor.S
