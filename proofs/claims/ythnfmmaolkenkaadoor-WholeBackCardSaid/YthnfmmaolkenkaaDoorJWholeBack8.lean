/- Joined by wip/tools/shake.py for the claim of WholeBack: NatD, NatE, NatG, NatF, WhoA, NatR, WhoB, WhoLBack, LawWholeBack. -/
import Derived.Test.YthnfmmaolkenkaaDoorJWholeBack7
import Derived.Test.YthnfmmaolkenkaaDoorJWholeBack4
import Derived.Test.YthnfmmaolkenkaaDoorJWholeBack5
import Derived.Lib.Strings
import Derived.Test.YthnfmmaolkenkaaDoorJWholeBack6
import Derived.OpenShut
import Derived.Test.YthnfmmaolkenkaaDoorJWholeBack2
import Derived.Lib.IndexLaws
import Derived.Test.YthnfmmaolkenkaaDoorRows
import Derived.WalkKit
import Derived.Test.YthnfmmaolkenkaaDoorTie
import Derived.Test.YthnfmmaolkenkaaDoorCards
import Derived.SevenTiedAt
import Derived.Handed
import Derived.Lib.LaidIn
import Derived.Lib.LaidU8
import Derived.ProofKit
import Derived.ShutString
import Derived.ChangeOld
import Derived.Below
import Derived.SizedLaws
import Derived.Lib.SmallJoins
import Derived.ChangeSlices
/- Knuth's division by limbs: what take, give, digit and DivMod compute; the greatest common divisor. -/
namespace Go.Proofs.YthnfmmaolkenkaaDoor.V
set_option linter.unusedVariables false
set_option linter.unusedSimpArgs false
open Go.RowKit Go.Proofs.YthnfmmaolkenkaaDoor.PA Go.Proofs.YthnfmmaolkenkaaDoor.H Go.Proofs.YthnfmmaolkenkaaDoorW.PrintWords Go.Proofs.YthnfmmaolkenkaaDoorW.PrintLast Go.Proofs.YthnfmmaolkenkaaDoorW.PrintMore

theorem and_low {x : Int} (h0 : 0 ≤ x) (h1 : x < 18446744073709551616) : Go.bits .and .u64 x 4294967295 = x % 4294967296 :=
  bits_mask .u64 64 (by decide) wraps_u64 32 (by decide) x h0 (by omega)
theorem step_take {U V0 Pi q v vp c b cl ch b' r u : Int} (h : U = V0 - q * vp + Pi * (c + b)) (e1 : cl + 4294967296 * ch = c + q * v) (e2 : r - 4294967296 * b' = u - cl - b) : U + Pi * (r - u) = V0 - q * (vp + Pi * v) + (4294967296 * Pi) * (ch + b') := by
  subst h
  grind
theorem take_l0 (u0 v : List Int) (q : Int) (hv : Lim v) (hq : 0 ≤ q ∧ q < 4294967296) (hnv : v.length < 1000000000) (hu0 : Lim u0) (hl0 : u0.length = v.length + 1) (d : Nat) : ∀ (i : Nat) (u : List Int) (c b : Int), i + d = v.length → u.length = v.length + 1 → Lim u → 0 ≤ c → c < 4294967296 → 0 ≤ b → b ≤ 1 → val u = val u0 - q * val (v.take i) + pw i * (c + b) →
    ∃ u', Ev (fun k => nat_take.l0 k u v q c b (v.length : Int) (i : Int)) (decide (val u0 < q * val v), u') ∧ u'.length = v.length + 1 ∧ Lim u' ∧ val u' = val u0 - q * val v + (if val u0 < q * val v then pw (v.length + 1) else 0) := by
  induction d with
  | zero =>
    intro i u c b hi hl hL c0 c1 b0 b1 he
    obtain rfl : i = v.length := by omega
    have hp : v.length < u.length := by omega
    have gu := hL.get _ hp
    rw [List.take_of_length_le (by omega)] at he
    have hset : (u.set v.length ((u[v.length] - c - b) % 4294967296)).length = v.length + 1 := by simpa using hl
    have hLs : Lim (u.set v.length ((u[v.length] - c - b) % 4294967296)) := hL.set _ (by omega) (by omega)
    have hval : val (u.set v.length ((u[v.length] - c - b) % 4294967296)) = val u0 - q * val v - pw (v.length + 1) * ((u[v.length] - c - b) / 4294967296) := by
      rw [val_set _ _ _ hp, he, pw_succ]
      have e := Int.mul_ediv_add_emod (u[v.length] - c - b) 4294967296
      generalize (u[v.length] - c - b) / 4294967296 = f at *
      generalize (u[v.length] - c - b) % 4294967296 = g at *
      generalize u[v.length] = z at *
      grind
    have h1 := val_lt hLs
    have h2 := val_nonneg hLs
    have h3 := val_nonneg hu0
    have h4 := val_lt hu0
    rw [hset] at h1
    have hneg : (u[v.length] - c - b < 0) ↔ val u0 < q * val v := by
      by_cases hn : u[v.length] - c - b < 0
      · have : (u[v.length] - c - b) / 4294967296 = -1 := by omega
        rw [this] at hval
        constructor <;> intro <;> omega
      · have : (u[v.length] - c - b) / 4294967296 = 0 := by omega
        rw [this] at hval
        constructor <;> intro <;> omega
    have e1 : IntKind.u64.wrap ((IntKind.u64.wrap (u[v.length] - c)) - b) = (u[v.length] - c - b) % 18446744073709551616 := by rw [u64e, u64e]; omega
    refine ⟨u.set v.length ((u[v.length] - c - b) % 4294967296), Ev.step (f := fun _ => some _) (fun k => ?_) (Ev.now _), hset, hLs, ?_⟩
    · simp only [nat_take.l0]
      rw [if_neg (by omega), if_pos (by omega), if_pos (by omega), rd_get _ _ hp, u64 (x := u[v.length]) gu.1 (by omega), e1, Int.toNat_natCast]
      congr 2
      · rw [Bool.eq_iff_iff]
        simp only [beq_iff_eq, decide_eq_true_eq]
        rw [← hneg]
        constructor <;> intro <;> omega
      · congr 1; omega
    · rw [hval]
      by_cases hn : u[v.length] - c - b < 0
      · rw [if_pos (hneg.1 hn), show (u[v.length] - c - b) / 4294967296 = -1 by omega]; omega
      · rw [if_neg (fun h => hn (hneg.2 h)), show (u[v.length] - c - b) / 4294967296 = 0 by omega]; omega
  | succ d ih =>
    intro i u c b hi hl hL c0 c1 b0 b1 he
    have hiv : i < v.length := by omega
    have hiu : i < u.length := by omega
    have gv := hv.get i hiv
    have gu := hL.get i hiu
    have hm := mul_bd32 hq gv
    have e1 : IntKind.u64.wrap (c + IntKind.u64.wrap (q * IntKind.u64.wrap v[i])) = c + q * v[i] := by
      rw [u64 (x := v[i]) (by omega) (by omega), u64 (x := q * v[i]) (by omega) (by omega), u64 (by omega) (by omega)]
    have e2 : IntKind.u64.wrap ((IntKind.u64.wrap (u[i] - (c + q * v[i]) % 4294967296)) - b) = (u[i] - (c + q * v[i]) % 4294967296 - b) % 18446744073709551616 := by rw [u64e, u64e]; omega
    have hstep := step_take (ch := (c + q * v[i]) / 4294967296) (b' := (u[i] - (c + q * v[i]) % 4294967296 - b) % 18446744073709551616 / 9223372036854775808) (r := (u[i] - (c + q * v[i]) % 4294967296 - b) % 18446744073709551616 % 4294967296) (u := u[i]) (cl := (c + q * v[i]) % 4294967296) (v := v[i]) he (by omega) (by omega)
    obtain ⟨u', h1, h2⟩ := ih (i + 1) (u.set i ((u[i] - (c + q * v[i]) % 4294967296 - b) % 18446744073709551616 % 4294967296)) ((c + q * v[i]) / 4294967296) ((u[i] - (c + q * v[i]) % 4294967296 - b) % 18446744073709551616 / 9223372036854775808) (by omega) (by simpa using hl) (hL.set _ (by omega) (by omega)) (by omega) (by omega) (by omega) (by omega) (by
      rw [val_set _ _ _ hiu, val_take_succ _ _ hiv, pw_succ]
      exact hstep)
    refine ⟨u', Ev.step (fun k => ?_) h1, h2⟩
    simp only [nat_take.l0]
    rw [if_pos (by omega), if_pos (by omega), if_pos (by omega), if_pos (by omega), rd_get _ _ hiv, rd_get _ _ hiu, e1, and_low (by omega) (by omega), u64 (x := u[i]) (by omega) (by omega), e2, w64 (by omega) (by omega), Int.toNat_natCast]
    rfl
theorem take_ev (u v : List Int) (q : Int) (hu : Lim u) (hv : Lim v) (hq : 0 ≤ q ∧ q < 4294967296) (hnv : v.length < 1000000000) (hl : u.length = v.length + 1) :
    ∃ u', Ev (fun k => nat_take.f k u v q) (decide (val u < q * val v), u') ∧ u'.length = v.length + 1 ∧ Lim u' ∧ val u' = val u - q * val v + (if val u < q * val v then pw (v.length + 1) else 0) := by
  obtain ⟨u', h1, h2⟩ := take_l0 u v q hv hq hnv hu hl v.length 0 u 0 0 (by omega) hl hu (by omega) (by omega) (by omega) (by omega) (by simp [val])
  exact ⟨u', Ev.congr (fun k => rfl) h1, h2⟩
theorem step_give {U V0 Pi v vp c ch r u : Int} (h : U + Pi * c = V0 + vp) (e : r + 4294967296 * ch = c + (u + v)) : U + Pi * (r - u) + (4294967296 * Pi) * ch = V0 + (vp + Pi * v) := by grind
theorem give_l0 (u0 v : List Int) (hv : Lim v) (hnv : v.length < 1000000000) (hbig : pw (v.length + 1) ≤ val u0 + val v) (hu0 : val u0 < pw (v.length + 1)) (d : Nat) : ∀ (i : Nat) (u : List Int) (c : Int), i + d = v.length → u.length = v.length + 1 → Lim u → 0 ≤ c → c ≤ 1 → val u + pw i * c = val u0 + val (v.take i) →
    ∃ u', Ev (fun k => nat_give.l0 k u v c (v.length : Int) (i : Int)) u' ∧ u'.length = v.length + 1 ∧ Lim u' ∧ val u' = val u0 + val v - pw (v.length + 1) := by
  induction d with
  | zero =>
    intro i u c hi hl hL c0 c1 he
    obtain rfl : i = v.length := by omega
    have hp : v.length < u.length := by omega
    have gu := hL.get _ hp
    rw [List.take_of_length_le (by omega)] at he
    have hset : (u.set v.length ((u[v.length] + c) % 4294967296)).length = v.length + 1 := by simpa using hl
    have hLs : Lim (u.set v.length ((u[v.length] + c) % 4294967296)) := hL.set _ (by omega) (by omega)
    have hval : val (u.set v.length ((u[v.length] + c) % 4294967296)) = val u0 + val v - pw (v.length + 1) * ((u[v.length] + c) / 4294967296) := by
      rw [val_set _ _ _ hp, pw_succ]
      have e := Int.mul_ediv_add_emod (u[v.length] + c) 4294967296
      generalize (u[v.length] + c) / 4294967296 = f at *
      generalize (u[v.length] + c) % 4294967296 = g at *
      generalize u[v.length] = z at *
      grind
    have h1 := val_lt hLs
    have h2 := val_lt hv
    rw [hset] at h1
    have h3 := pw_succ v.length
    have h4 := pw_pos v.length
    have hone : (u[v.length] + c) / 4294967296 = 1 := by
      have : (u[v.length] + c) / 4294967296 = 0 ∨ (u[v.length] + c) / 4294967296 = 1 := by omega
      rcases this with h0 | h0
      · rw [h0] at hval; omega
      · exact h0
    refine ⟨u.set v.length ((u[v.length] + c) % 4294967296), Ev.step (f := fun _ => some _) (fun k => ?_) (Ev.now _), hset, hLs, by rw [hval, hone]; omega⟩
    simp only [nat_give.l0]
    rw [if_neg (by omega), if_pos (by omega), if_pos (by omega), rd_get _ _ hp, Int.toNat_natCast]
    congr 2
    omega
  | succ d ih =>
    intro i u c hi hl hL c0 c1 he
    have hiv : i < v.length := by omega
    have hiu : i < u.length := by omega
    have gv := hv.get i hiv
    have gu := hL.get i hiu
    obtain ⟨u', h1, h2⟩ := ih (i + 1) (u.set i ((c + (u[i] + v[i])) % 4294967296)) ((c + (u[i] + v[i])) / 4294967296) (by omega) (by simpa using hl) (hL.set _ (by omega) (by omega)) (by omega) (by omega) (by
      rw [val_set _ _ _ hiu, val_take_succ _ _ hiv, pw_succ]
      exact step_give he (by omega))
    refine ⟨u', Ev.step (fun k => ?_) h1, h2⟩
    simp only [nat_give.l0]
    rw [if_pos (by omega), if_pos (by omega), if_pos (by omega), if_pos (by omega), rd_get _ _ hiv, rd_get _ _ hiu, u64 (x := u[i]) (by omega) (by omega), u64 (x := v[i]) (by omega) (by omega), u64 (x := u[i] + v[i]) (by omega) (by omega), u64 (by omega) (by omega), w64 (by omega) (by omega), Int.toNat_natCast]
    rfl
theorem give_ev (u v : List Int) (hu : Lim u) (hv : Lim v) (hnv : v.length < 1000000000) (hl : u.length = v.length + 1) (hbig : pw (v.length + 1) ≤ val u + val v) :
    ∃ u', Ev (fun k => nat_give.f k u v) u' ∧ u'.length = v.length + 1 ∧ Lim u' ∧ val u' = val u + val v - pw (v.length + 1) := by
  have h0 := val_lt hu
  rw [hl] at h0
  obtain ⟨u', h1, h2⟩ := give_l0 u v hv hnv hbig h0 v.length 0 u 0 (by omega) hl hu (by omega) (by omega) (by simp [val])
  exact ⟨u', Ev.congr (fun k => rfl) h1, h2⟩

/-! ### one limb of a quotient -/
theorem digit_j1 (u v : List Int) (q : Int) (hu : Lim u) (hv : Lim v) (hnv : v.length < 1000000000) (hl : u.length = v.length + 1) (hq : 0 ≤ q ∧ q < 4294967296) (hv0 : 0 < val v) (h1 : (q - 1) * val v ≤ val u) (h2 : val u < (q + 1) * val v) :
    ∃ u', Ev (fun k => nat_digit.j1 k u v q) (val u / val v, u') ∧ u'.length = v.length + 1 ∧ Lim u' ∧ val u' = val u % val v := by
  obtain ⟨u1, t1, t2, t3, t4⟩ := take_ev u v q hu hv hq hnv hl
  have e1 : (q - 1) * val v = q * val v - val v := by grind
  have e2 : (q + 1) * val v = q * val v + val v := by grind
  by_cases hneg : val u < q * val v
  · rw [if_pos hneg] at t4
    have hq1 : 1 ≤ q := by
      have h0 := val_nonneg hu
      by_cases hz : q = 0
      · subst hz; omega
      · omega
    obtain ⟨u2, g1, g2, g3, g4⟩ := give_ev u1 v t3 hv hnv t2 (by omega)
    have hd := div_unique hv0 (a := val u) (q := q - 1) (r := val u2) (by rw [g4, t4]; omega) (val_nonneg g3) (by omega)
    refine ⟨u2, ?_, g2, g3, hd.2.symm⟩
    refine Ev.step (fun k => by simp only [nat_digit.j1]; rfl) (Ev.bind t1 ?_)
    simp only [decide_eq_true hneg, if_true]
    refine Ev.congr (fun k => rfl) (Ev.bind g1 ?_)
    rw [hd.1, u64 (by omega) (by omega), Int.emod_eq_of_lt (by omega) (by omega)]
    exact Ev.now _
  · rw [if_neg hneg] at t4
    have hd := div_unique hv0 (a := val u) (q := q) (r := val u1) (by rw [t4]; omega) (val_nonneg t3) (by omega)
    refine ⟨u1, ?_, t2, t3, hd.2.symm⟩
    refine Ev.step (fun k => by simp only [nat_digit.j1]; rfl) (Ev.bind t1 ?_)
    rw [decide_eq_false hneg]
    simp only [Bool.false_eq_true, if_false]
    rw [hd.1, Int.emod_eq_of_lt (by omega) (by omega)]
    exact Ev.now _
/-- The truncated quotient is no less than the quotient. -/
theorem est_le {Q T Vt P U V : Int} (hP : 0 < P) (hQ : 0 ≤ Q) (h1 : Q * V ≤ U) (h2 : U < (T + 1) * P) (h3 : Vt * P ≤ V) : Q * Vt ≤ T := by
  have a1 : Q * (Vt * P) ≤ Q * V := Int.mul_le_mul_of_nonneg_left h3 hQ
  have a2 : (Q * Vt) * P < (T + 1) * P := by rw [Int.mul_assoc]; omega
  have := Int.lt_of_mul_lt_mul_right a2 (Int.le_of_lt hP)
  omega
/-- A quotient that fits three limbs by two is at most one too great. -/
theorem est_ge {q T V2 P U V : Int} (hP : 0 < P) (hq : 0 ≤ q) (hqV : q - 1 ≤ V2) (h1 : q * V2 ≤ T) (h2 : T * P ≤ U) (h3 : V ≤ (V2 + 1) * P) (hV : 0 ≤ V) (hU : 0 ≤ U) : (q - 1) * V ≤ U := by
  by_cases hz : q = 0
  · subst hz
    have : (0 - 1) * V = -V := by grind
    omega
  · have a1 : (q - 1) * V ≤ (q - 1) * ((V2 + 1) * P) := Int.mul_le_mul_of_nonneg_left h3 (by omega)
    have a2 : (q - 1) * (V2 + 1) ≤ T := by
      have : (q - 1) * (V2 + 1) = q * V2 - V2 + q - 1 := by grind
      omega
    have a3 : (q - 1) * (V2 + 1) * P ≤ T * P := Int.mul_le_mul_of_nonneg_right a2 (Int.le_of_lt hP)
    rw [Int.mul_assoc] at a3
    omega
set_option maxHeartbeats 2000000 in
theorem digit_l0 (u v : List Int) (hu : Lim u) (hv : Lim v) (hnv : v.length < 1000000000) (m : Nat) (hm : v.length = m + 2) (hl : u.length = m + 3) (top : Int) (htop : top = u[m + 2] * 4294967296 + u[m + 1]) (hvt : 2147483648 ≤ v[m + 1]) (hlt : val u < 4294967296 * val v) (hQ : 0 ≤ val u / val v) (d : Nat) : ∀ (q r : Int), q.toNat < d → 0 ≤ q → q < 4294967296 → r = top - q * v[m + 1] → 0 ≤ r → r < 8589934592 → val u / val v ≤ q →
    ∃ u', Ev (fun k => nat_digit.l0 k u v (v.length : Int) q r) (val u / val v, u') ∧ u'.length = v.length + 1 ∧ Lim u' ∧ val u' = val u % val v := by
  have gv1 := hv.get (m + 1) (by omega)
  have gv2 := hv.get m (by omega)
  have gu0 := hu.get m (by omega)
  have gu1 := hu.get (m + 1) (by omega)
  have gu2 := hu.get (m + 2) (by omega)
  have dv : val v = val (v.take m) + pw m * (v[m] + 4294967296 * v[m + 1]) := by
    rw [val_take_drop v m (by omega), val_drop_cons v m (by omega), val_drop_cons v (m + 1) (by omega), List.drop_eq_nil_of_le (by omega)]
    simp [val]
  have du : val u = val (u.take m) + pw m * (u[m] + 4294967296 * (u[m + 1] + 4294967296 * u[m + 2])) := by
    rw [val_take_drop u m (by omega), val_drop_cons u m (by omega), val_drop_cons u (m + 1) (by omega), val_drop_cons u (m + 2) (by omega), List.drop_eq_nil_of_le (by omega)]
    simp [val]
  have lv0 := val_nonneg (hv.take m)
  have lv1 := val_lt (hv.take m)
  have lu0 := val_nonneg (hu.take m)
  have lu1 := val_lt (hu.take m)
  rw [List.length_take, Nat.min_eq_left (by omega)] at lv1 lu1
  have hP := pw_pos m
  have hv0 : 0 < val v := by
    have : pw m * 1 ≤ pw m * (v[m] + 4294967296 * v[m + 1]) := Int.mul_le_mul_of_nonneg_left (by omega) (Int.le_of_lt hP)
    omega
  -- the three highest limbs, and the two of the divisor
  have hU1 : val u < ((top * 4294967296 + u[m]) + 1) * pw m := by
    have e : ((top * 4294967296 + u[m]) + 1) * pw m = pw m * (u[m] + 4294967296 * (u[m + 1] + 4294967296 * u[m + 2])) + pw m := by rw [htop]; grind
    omega
  have hU2 : (top * 4294967296 + u[m]) * pw m ≤ val u := by
    have e : (top * 4294967296 + u[m]) * pw m = pw m * (u[m] + 4294967296 * (u[m + 1] + 4294967296 * u[m + 2])) := by rw [htop]; grind
    omega
  have hV1 : (v[m + 1] * 4294967296 + v[m]) * pw m ≤ val v := by
    have e : (v[m + 1] * 4294967296 + v[m]) * pw m = pw m * (v[m] + 4294967296 * v[m + 1]) := by grind
    omega
  have hV2 : val v ≤ ((v[m + 1] * 4294967296 + v[m]) + 1) * pw m := by
    have e : ((v[m + 1] * 4294967296 + v[m]) + 1) * pw m = pw m * (v[m] + 4294967296 * v[m + 1]) + pw m := by grind
    omega
  have hQV : (val u / val v) * val v ≤ val u := Int.ediv_mul_le _ (by omega)
  have hUQ : val u < (val u / val v + 1) * val v := Int.lt_ediv_add_one_mul_self _ hv0
  have hu0 := val_nonneg hu
  induction d with
  | zero => intro q r hd; omega
  | succ d ih =>
    intro q r hd q0 q1 hr r0 r1 hq
    have hm2 := mul_bd32 ⟨q0, q1⟩ gv2
    -- the loop ends here
    have hend : Aside0 (q * v[m] ≤ r * 4294967296 + u[m] → ∃ u', Ev (fun k => nat_digit.j1 k u v q) (val u / val v, u') ∧ u'.length = v.length + 1 ∧ Lim u' ∧ val u' = val u % val v) := by
      refine ⟨fun hfit => ?_⟩
      refine digit_j1 u v q hu hv hnv (by omega) ⟨q0, q1⟩ hv0 ?_ ?_
      · refine est_ge hP q0 (by omega) ?_ hU2 hV2 (by omega) hu0
        have : q * (v[m + 1] * 4294967296 + v[m]) = (top - r) * 4294967296 + q * v[m] := by rw [hr]; grind
        omega
      · have : (val u / val v + 1) * val v ≤ (q + 1) * val v := Int.mul_le_mul_of_nonneg_right (by omega) (by omega)
        omega
    by_cases hr32 : r < 4294967296
    · by_cases hbig : q * v[m] > r * 4294967296 + u[m]
      · -- one less
        have hq1 : 1 ≤ q := by
          by_cases hz : q = 0
          · subst hz; omega
          · omega
        have hQq : val u / val v ≤ q - 1 := by
          by_cases hz : val u / val v ≤ q - 1
          · exact hz
          · have e : val u / val v = q := by omega
            have h := est_le hP hQ hQV hU1 hV1
            rw [e] at h
            have : q * (v[m + 1] * 4294967296 + v[m]) = (top - r) * 4294967296 + q * v[m] := by rw [hr]; grind
            omega
        obtain ⟨u', h1, h2⟩ := ih (q - 1) (r + v[m + 1]) (by omega) (by omega) (by omega) (by rw [hr]; grind) (by omega) (by omega) hQq
        refine ⟨u', Ev.step (fun k => ?_) h1, h2⟩
        simp only [nat_digit.l0]
        rw [if_pos hr32, w64 (x := (v.length : Int) - 2) (by omega) (by omega), w64 (x := (v.length : Int) - 1) (by omega) (by omega), show (v.length : Int) - 2 = (m : Int) by omega, show (v.length : Int) - 1 = ((m + 1 : Nat) : Int) by omega, if_pos (by omega), if_pos (by omega), if_pos (by omega), rd_get _ _ (show m < v.length by omega), rd_get _ _ (show m < u.length by omega), rd_get _ _ (show m + 1 < v.length by omega), u64 (x := v[m]) (by omega) (by omega), u64 (x := u[m]) (by omega) (by omega), u64 (x := v[m + 1]) (by omega) (by omega), u64 (x := q * v[m]) (by omega) (by omega), u64 (x := r * 4294967296) (by omega) (by omega), or_join ⟨r0, hr32⟩ gu0, if_pos hbig, if_pos (by omega), if_pos (by omega), u64 (by omega) (by omega), u64 (by omega) (by omega)]
      · obtain ⟨u', h1, h2⟩ := hend.out (by omega)
        refine ⟨u', Ev.step (fun k => ?_) h1, h2⟩
        simp only [nat_digit.l0]
        rw [if_pos hr32, w64 (x := (v.length : Int) - 2) (by omega) (by omega), show (v.length : Int) - 2 = (m : Int) by omega, if_pos (by omega), if_pos (by omega), if_pos (by omega), rd_get _ _ (show m < v.length by omega), rd_get _ _ (show m < u.length by omega), u64 (x := v[m]) (by omega) (by omega), u64 (x := u[m]) (by omega) (by omega), u64 (x := q * v[m]) (by omega) (by omega), u64 (x := r * 4294967296) (by omega) (by omega), or_join ⟨r0, hr32⟩ gu0, if_neg hbig]
    · obtain ⟨u', h1, h2⟩ := hend.out (by omega)
      refine ⟨u', Ev.step (fun k => ?_) h1, h2⟩
      simp only [nat_digit.l0]
      rw [if_neg hr32]
theorem mn_eq (a b : Int) : mn a b = min a b := by unfold mn; split <;> omega
set_option maxHeartbeats 2000000 in
theorem digit_ev (u v : List Int) (hu : Lim u) (hv : Lim v) (hnv : v.length < 1000000000) (h2 : 2 ≤ v.length) (hl : u.length = v.length + 1) (htop : 2147483648 ≤ v.getD (v.length - 1) 0) (hlt : val u < 4294967296 * val v) :
    ∃ u', Ev (fun k => nat_digit.f k u v) (val u / val v, u') ∧ u'.length = v.length + 1 ∧ Lim u' ∧ val u' = val u % val v := by
  obtain ⟨m, hm⟩ : ∃ m, v.length = m + 2 := ⟨v.length - 2, by omega⟩
  have gv1 := hv.get (m + 1) (by omega)
  have gu1 := hu.get (m + 1) (by omega)
  have gu2 := hu.get (m + 2) (by omega)
  rw [hm, show m + 2 - 1 = m + 1 by omega, getD_get _ _ (show m + 1 < v.length by omega)] at htop
  have hP := pw_pos (m + 1)
  have dv : val v = val (v.take (m + 1)) + pw (m + 1) * v[m + 1] := by
    rw [val_take_drop v (m + 1) (by omega), val_drop_cons v (m + 1) (by omega), List.drop_eq_nil_of_le (by omega)]
    simp [val]
  have du : val u = val (u.take (m + 1)) + pw (m + 1) * (u[m + 1] + 4294967296 * u[m + 2]) := by
    rw [val_take_drop u (m + 1) (by omega), val_drop_cons u (m + 1) (by omega), val_drop_cons u (m + 2) (by omega), List.drop_eq_nil_of_le (by omega)]
    simp [val]
  have lv0 := val_nonneg (hv.take (m + 1))
  have lv1 := val_lt (hv.take (m + 1))
  have lu0 := val_nonneg (hu.take (m + 1))
  have lu1 := val_lt (hu.take (m + 1))
  rw [List.length_take, Nat.min_eq_left (by omega)] at lv1 lu1
  have hv0 : 0 < val v := by
    have : pw (m + 1) * 1 ≤ pw (m + 1) * v[m + 1] := Int.mul_le_mul_of_nonneg_left (by omega) (Int.le_of_lt hP)
    omega
  have hQ : 0 ≤ val u / val v := Int.ediv_nonneg (val_nonneg hu) (by omega)
  obtain ⟨top, htp⟩ : ∃ t, t = u[m + 2] * 4294967296 + u[m + 1] := ⟨_, rfl⟩
  have htp0 : 0 ≤ top := by omega
  have htp1 : top < 18446744073709551616 := by omega
  have hQtop : (val u / val v) * v[m + 1] ≤ top := by
    refine est_le hP hQ (Int.ediv_mul_le _ (by omega)) ?_ (V := val v) ?_
    · have e : (top + 1) * pw (m + 1) = pw (m + 1) * (u[m + 1] + 4294967296 * u[m + 2]) + pw (m + 1) := by rw [htp]; grind
      omega
    · rw [Int.mul_comm]; omega
  have hQ1 : val u / val v ≤ top / v[m + 1] := Int.le_ediv_of_mul_le (by omega) hQtop
  have hQ2 : val u / val v < 4294967296 := Int.ediv_lt_of_lt_mul hv0 hlt
  have hd0 : 0 ≤ top / v[m + 1] := Int.ediv_nonneg htp0 (by omega)
  have hd1 : top / v[m + 1] < 18446744073709551616 := by
    have : top / v[m + 1] ≤ top := Int.ediv_le_self _ htp0
    omega
  -- the first guess
  obtain ⟨q, hq⟩ : ∃ q, q = mn (top / v[m + 1]) 4294967295 := ⟨_, rfl⟩
  have hq' := hq
  rw [mn_eq] at hq'
  have q0 : 0 ≤ q := by omega
  have q1 : q < 4294967296 := by omega
  have hqm := mul_bd32 ⟨q0, q1⟩ gv1
  have hqt : q * v[m + 1] ≤ top := by
    have h1 : q * v[m + 1] ≤ (top / v[m + 1]) * v[m + 1] := Int.mul_le_mul_of_nonneg_right (by omega) (by omega)
    have h2 := Int.ediv_mul_le top (show v[m + 1] ≠ 0 by omega)
    omega
  -- the limb above is not above the divisor's highest
  have hu2 : u[m + 2] ≤ v[m + 1] := by
    by_cases h : u[m + 2] ≤ v[m + 1]
    · exact h
    · have h1 : pw (m + 1) * (4294967296 * (v[m + 1] + 1)) ≤ pw (m + 1) * (u[m + 1] + 4294967296 * u[m + 2]) := Int.mul_le_mul_of_nonneg_left (by omega) (Int.le_of_lt hP)
      have h2 : pw (m + 1) * (4294967296 * (v[m + 1] + 1)) = 4294967296 * (pw (m + 1) * v[m + 1]) + 4294967296 * pw (m + 1) := by grind
      omega
  have hr1 : top - q * v[m + 1] < 8589934592 := by
    by_cases h : top / v[m + 1] ≤ 4294967295
    · have e : q = top / v[m + 1] := by omega
      have h3 := Int.emod_lt_of_pos top (show 0 < v[m + 1] by omega)
      have h4 := Int.mul_ediv_add_emod top v[m + 1]
      rw [e, Int.mul_comm]
      omega
    · have e : q = 4294967295 := by omega
      rw [e, htp]
      omega
  obtain ⟨u', h1, h2⟩ := digit_l0 u v hu hv hnv m hm (by omega) top htp htop hlt hQ (q.toNat + 1) q (top - q * v[m + 1]) (by omega) q0 q1 rfl (by omega) hr1 (by omega)
  refine ⟨u', Ev.congr (fun k => ?_) h1, h2⟩
  have eor : Go.bits .or .u64 (IntKind.u64.wrap ((IntKind.u64.wrap u[m + 2]) * 4294967296)) (IntKind.u64.wrap u[m + 1]) = top := by
    rw [u64 (x := u[m + 2]) (by omega) (by omega), u64 (x := u[m + 2] * 4294967296) (by omega) (by omega), u64 (x := u[m + 1]) (by omega) (by omega), or_join gu2 gu1, htp]
  have er2 : rd u (v.length : Int) = u[m + 2] := by rw [rd_D, hm, getD_get _ _ (show m + 2 < u.length by omega)]
  unfold nat_digit.f
  rw [w64 (x := (v.length : Int) - 1) (by omega) (by omega), show (v.length : Int) - 1 = ((m + 1 : Nat) : Int) by omega, if_pos (by omega), if_pos (by omega), if_pos (by omega), if_pos (by omega), if_pos (by omega), rd_get _ _ (show m + 1 < v.length by omega), er2, rd_get _ _ (show m + 1 < u.length by omega), eor, u64 (x := v[m + 1]) (by omega) (by omega), if_neg (by omega), Int.tdiv_eq_ediv_of_nonneg htp0, u64 hd0 hd1, ← hq, u64 (x := q * v[m + 1]) (by omega) (by omega), u64 (by omega) (by omega)]
end Go.Proofs.YthnfmmaolkenkaaDoor.V
/- nat.DivMod and nat.Gcd, as numbers. -/
namespace Go.Proofs.YthnfmmaolkenkaaDoor.V
set_option linter.unusedVariables false
set_option linter.unusedSimpArgs false
open Go.RowKit Go.Proofs.YthnfmmaolkenkaaDoor.PA Go.Proofs.YthnfmmaolkenkaaDoor.H Go.Proofs.YthnfmmaolkenkaaDoorW.PrintWords Go.Proofs.YthnfmmaolkenkaaDoorW.PrintLast Go.Proofs.YthnfmmaolkenkaaDoorW.PrintMore

theorem bitLenAux_spec (f x : Nat) (hx : x < 2 ^ f) : x < 2 ^ (Lib.bitLenAux f x) ∧ (0 < x → 2 ^ (Lib.bitLenAux f x) ≤ 2 * x) ∧ Lib.bitLenAux f x ≤ f := by
  induction f generalizing x with
  | zero => simp at hx; subst hx; simp [Lib.bitLenAux]
  | succ f ih =>
    unfold Lib.bitLenAux
    by_cases h : x = 0
    · rw [if_pos h]; subst h; simp
    · rw [if_neg h]
      rw [Nat.pow_succ] at hx
      obtain ⟨h1, h2, h3⟩ := ih (x / 2) (by omega)
      rw [Nat.add_comm 1, Nat.pow_succ]
      refine ⟨by omega, fun _ => ?_, by omega⟩
      by_cases hz : x / 2 = 0
      · rw [hz]
        have e : Lib.bitLenAux f 0 = 0 := by cases f <;> simp [Lib.bitLenAux]
        rw [e]; omega
      · have := h2 (by omega); omega
/-- By how many bits the divisor is moved up: its highest limb's highest bit stands then. -/
theorem lz_ev (x : Int) (h0 : 0 < x) (h1 : x < 4294967296) : ∃ n : Nat, bits_LeadingZeros32.f x = some (n : Int) ∧ n ≤ 31 ∧ 2147483648 ≤ x * 2 ^ n ∧ (x + 1) * 2 ^ n ≤ 4294967296 := by
  obtain ⟨a1, a2, a3⟩ := bitLenAux_spec 64 x.toNat (by omega)
  have a2 := a2 (by omega)
  have a4 : Lib.bitLen x.toNat ≤ 32 := by
    unfold Lib.bitLen
    by_cases h : Lib.bitLenAux 64 x.toNat ≤ 32
    · exact h
    · have := Nat.pow_le_pow_right (n := 2) (by omega) (show 33 ≤ Lib.bitLenAux 64 x.toNat by omega)
      omega
  have a5 : 1 ≤ Lib.bitLen x.toNat := by
    unfold Lib.bitLen
    by_cases h : Lib.bitLenAux 64 x.toNat = 0
    · rw [h] at a1; omega
    · omega
  unfold Lib.bitLen at a4 a5
  obtain ⟨b, hb⟩ : ∃ b, b = Lib.bitLenAux 64 x.toNat := ⟨_, rfl⟩
  rw [← hb] at a1 a2 a4 a5
  refine ⟨32 - b, ?_, by omega, ?_, ?_⟩
  · unfold bits_LeadingZeros32.f Lib.bitLen
    rw [if_pos (by omega), ← hb]
    congr 1
    omega
  · have e : (2 : Nat) ^ b * 2 ^ (32 - b) = 4294967296 := by rw [← Nat.pow_add, show b + (32 - b) = 32 by omega]
    have h2 : 2 ^ b * 2 ^ (32 - b) ≤ (2 * x.toNat) * 2 ^ (32 - b) := Nat.mul_le_mul_right _ a2
    have h3 : x * 2 ^ (32 - b) = ((x.toNat * 2 ^ (32 - b) : Nat) : Int) := by
      rw [Int.natCast_mul, Int.toNat_of_nonneg (by omega)]; simp
    rw [h3]
    rw [Nat.mul_assoc] at h2
    omega
  · have e : (2 : Nat) ^ b * 2 ^ (32 - b) = 4294967296 := by rw [← Nat.pow_add, show b + (32 - b) = 32 by omega]
    have h2 : (x.toNat + 1) * 2 ^ (32 - b) ≤ 2 ^ b * 2 ^ (32 - b) := Nat.mul_le_mul_right _ a1
    have hp : 0 < 2 ^ (32 - b) := Nat.two_pow_pos _
    have h3 : x * 2 ^ (32 - b) = ((x.toNat * 2 ^ (32 - b) : Nat) : Int) := by
      rw [Int.natCast_mul, Int.toNat_of_nonneg (by omega)]; simp
    have h4 : (2 : Int) ^ (32 - b) = ((2 ^ (32 - b) : Nat) : Int) := by simp
    rw [Int.add_mul, h3, Int.one_mul, h4]
    rw [Nat.add_mul, Nat.one_mul] at h2
    omega
/-- The limbs of a window, by the whole. -/
theorem digitW_ev (u v : List Int) (j : Nat) (hu : Lim u) (hv : Lim v) (hnv : v.length < 1000000000) (hnu : u.length < 2000000000) (h2 : 2 ≤ v.length) (hj : j + v.length + 1 ≤ u.length) (htop : 2147483648 ≤ v.getD (v.length - 1) 0) (hlt : val (u.drop (j + 1)) < val v) :
    ∃ u', Ev (fun k => nat_digitW.f k u (j : Int) (((j + v.length + 1 : Nat)) : Int) v) (val (u.drop j) / val v, u') ∧ u'.length = u.length ∧ Lim u' ∧ val (u'.drop j) = val (u.drop j) % val v ∧ val u' = val u - pw j * (val (u.drop j) / val v * val v) := by
  have hvv := val_lt hv
  have hP := pw_pos v.length
  -- nothing stands above the window
  have hsp : (u.drop j) = (u.take (j + v.length + 1)).drop j ++ u.drop (j + v.length + 1) := by
    rw [← List.take_append_drop (v.length + 1) (u.drop j), List.drop_drop, List.drop_take]
    congr 1
    congr 1
    omega
  have hlw : ((u.take (j + v.length + 1)).drop j).length = v.length + 1 := by rw [List.length_drop, List.length_take]; omega
  have hju : j < u.length := by omega
  have gj := hu.get j hju
  have hd1 : val (u.drop j) = u[j] + 4294967296 * val (u.drop (j + 1)) := val_drop_cons u j hju
  have hlt' : val (u.drop j) < 4294967296 * val v := by omega
  have hLw : Lim ((u.take (j + v.length + 1)).drop j) := (hu.take _).drop _
  have hw0 := val_nonneg hLw
  have hw : val ((u.take (j + v.length + 1)).drop j) = val (u.drop j) ∧ val (u.drop (j + v.length + 1)) = 0 := by
    have e := val_append ((u.take (j + v.length + 1)).drop j) (u.drop (j + v.length + 1))
    rw [← hsp, hlw, pw_succ] at e
    have h3 := val_nonneg (hu.drop (j + v.length + 1))
    by_cases hz : val (u.drop (j + v.length + 1)) = 0
    · rw [hz] at e; exact ⟨by omega, hz⟩
    · have : (4294967296 * pw v.length) * 1 ≤ (4294967296 * pw v.length) * val (u.drop (j + v.length + 1)) := Int.mul_le_mul_of_nonneg_left (by omega) (by omega)
      omega
  obtain ⟨w, h1, h2', h3, h4⟩ := digit_ev _ v hLw hv hnv h2 hlw htop (by rw [hw.1]; exact hlt')
  rw [hw.1] at h1 h4
  have hl' : (u.take j ++ w ++ u.drop (j + v.length + 1)).length = u.length := by simp [h2']; omega
  have hdj : (u.take j ++ w ++ u.drop (j + v.length + 1)).drop j = w ++ u.drop (j + v.length + 1) := by
    rw [List.append_assoc, List.drop_append_of_le_length (by simp; omega), List.drop_eq_nil_of_le (by simp; omega), List.nil_append]
  have hvd : val ((u.take j ++ w ++ u.drop (j + v.length + 1)).drop j) = val (u.drop j) % val v := by
    rw [hdj, val_append, hw.2, h4]; omega
  refine ⟨u.take j ++ w ++ u.drop (j + v.length + 1), ?_, hl', ((hu.take j).append h3).append (hu.drop _), hvd, ?_⟩
  · obtain ⟨K, hK⟩ := h1
    refine ⟨K, fun k hk => ?_⟩
    have hK := hK k hk
    show nat_digitW.f k u (j : Int) ((j + v.length + 1 : Nat) : Int) v = _
    unfold nat_digitW.f
    rw [if_pos (by omega), Int.toNat_natCast, Int.toNat_natCast]
    simp only [] at hK
    rw [hK]
    rfl
  · have e1 := val_take_drop (u.take j ++ w ++ u.drop (j + v.length + 1)) j (by omega)
    have e2 := val_take_drop u j (by omega)
    have e3 : (u.take j ++ w ++ u.drop (j + v.length + 1)).take j = u.take j := by
      rw [List.append_assoc, List.take_append_of_le_length (by simp; omega), List.take_take, Nat.min_self]
    rw [e3, hvd] at e1
    rw [e1, e2]
    have e4 := Int.mul_ediv_add_emod (val (u.drop j)) (val v)
    generalize val (u.drop j) / val v = q at *
    generalize val (u.drop j) % val v = r at *
    rw [← e4]
    grind
theorem divmod_l0 (b v : List Int) (n : Nat) (A Bn : Int) (hn : n ≤ 31) (hv : Lim v) (hbv : b.length = v.length) (hnv : v.length < 1000000000) (h2 : 2 ≤ v.length) (htop : 2147483648 ≤ v.getD (v.length - 1) 0) (hV : val v = Bn * 2 ^ n) (d : Nat) : ∀ (u q : List Int), d ≤ q.length → u.length = q.length + v.length → u.length < 2000000000 → Lim u → Lim q → val (q.take d) = 0 → val (u.drop d) < val v → val u + val v * val q = A * 2 ^ n →
    Ev (fun k => nat_DivMod.l0 k b (n : Int) u v q ((d : Int) - 1)) (dig (A / Bn), dig (A % Bn), 0) := by
  have hp := p_pos n
  have hvv := val_lt hv
  induction d with
  | zero =>
    intro u q hd hl hnu hu hq hz hlt hval
    rw [List.drop_zero] at hlt
    have hu0 := val_nonneg hu
    have htake : val (u.take b.length) = val u := by
      have e := val_take_drop u b.length (by omega)
      have h3 := val_nonneg (hu.drop b.length)
      have h4 := val_nonneg (hu.take b.length)
      rw [hbv] at e h3 h4 ⊢
      have hP := pw_pos v.length
      by_cases hz : val (u.drop v.length) = 0
      · rw [hz] at e; omega
      · have : pw v.length * 1 ≤ pw v.length * val (u.drop v.length) := Int.mul_le_mul_of_nonneg_left (by omega) (by omega)
        omega
    -- u is the rest, moved up
    have hB : 0 < Bn := by
      by_cases h : 0 < Bn
      · exact h
      · have h1 := Int.mul_le_mul_of_nonneg_right (show Bn ≤ 0 by omega) (Int.le_of_lt hp)
        rw [Int.zero_mul] at h1
        omega
    have hr : val u = (A - Bn * val q) * 2 ^ n := by
      have : (A - Bn * val q) * 2 ^ n = A * 2 ^ n - (Bn * 2 ^ n) * val q := by grind
      rw [this, ← hV]; omega
    have hr0 : 0 ≤ A - Bn * val q := by
      by_cases h : 0 ≤ A - Bn * val q
      · exact h
      · have : (A - Bn * val q) * 2 ^ n < 0 := Int.mul_neg_of_neg_of_pos (by omega) hp
        omega
    have hr1 : A - Bn * val q < Bn := by
      have : (A - Bn * val q) * 2 ^ n < Bn * 2 ^ n := by omega
      exact Int.lt_of_mul_lt_mul_right this (Int.le_of_lt hp)
    obtain ⟨e1, e2⟩ := div_unique hB (a := A) (q := val q) (r := A - Bn * val q) (by rw [Int.mul_comm]; omega) hr0 hr1
    have hright := right_ev (u.take b.length) n (hu.take _) hn (by rw [List.length_take]; omega)
    rw [htake, hr, Int.mul_ediv_cancel _ (by omega)] at hright
    refine Ev.step (fun k => ?_) (Ev.bind (f := fun k t => some (dig (A / Bn), t, 0)) hright (by rw [e2]; exact Ev.now _))
    simp only [nat_DivMod.l0]
    rw [if_neg (by omega), norm_ev q hq (by omega)]
    simp only [Option.bind_some]
    rw [if_pos (by omega), if_pos (by omega), Int.toNat_natCast, e1]
  | succ d ih =>
    intro u q hd hl hnu hu hq hz hlt hval
    obtain ⟨u', h1, h2', h3, h4, h5⟩ := digitW_ev u v d hu hv hnv hnu h2 (by omega) htop hlt
    have hdu : d < u.length := by omega
    have hdq : d < q.length := by omega
    have gd := hu.get d hdu
    have gq := hq.get d hdq
    have hv0 : 0 < val v := by
      have := val_nonneg (hu.drop (d + 1))
      omega
    have hd1 : val (u.drop d) = u[d] + 4294967296 * val (u.drop (d + 1)) := val_drop_cons u d hdu
    have hq0 : 0 ≤ val (u.drop d) / val v := Int.ediv_nonneg (val_nonneg (hu.drop d)) (by omega)
    have hq1 : val (u.drop d) / val v < 4294967296 := Int.ediv_lt_of_lt_mul hv0 (by omega)
    have hm := Int.emod_lt_of_pos (val (u.drop d)) hv0
    have hz' : val (q.take d) = 0 ∧ q[d] = 0 := by
      have e := val_take_succ q d hdq
      rw [hz] at e
      have h6 := val_nonneg (hq.take d)
      have hP := pw_pos d
      by_cases h0 : q[d] = 0
      · rw [h0] at e; exact ⟨by omega, h0⟩
      · have : pw d * 1 ≤ pw d * q[d] := Int.mul_le_mul_of_nonneg_left (by omega) (by omega)
        omega
    refine Ev.step (fun k => ?_) (Ev.bind (f := fun k bt => if (d : Int) < (q.length : Int) then nat_DivMod.l0 k b (n : Int) bt.2 v (q.set (d : Int).toNat bt.1) (wrap64 ((d : Int) - 1)) else none) h1 ?_)
    · simp only [nat_DivMod.l0]
      rw [show ((d + 1 : Nat) : Int) - 1 = (d : Int) by omega, if_pos (by omega), if_pos (by omega), w64 (x := (d : Int) + (v.length : Int)) (by omega) (by omega), w64 (x := (d : Int) + (v.length : Int) + 1) (by omega) (by omega), show (d : Int) + (v.length : Int) + 1 = ((d + v.length + 1 : Nat) : Int) by omega, if_pos (by omega), if_pos (by omega)]
    · refine Ev.congr (fun k => ?_) (ih u' (q.set d (val (u.drop d) / val v)) (by simp; omega) (by simp; omega) (by omega) h3 (hq.set _ hq0 hq1) ?_ ?_ ?_)
      · simp only []
        rw [if_pos (by omega), Int.toNat_natCast, w64 (by omega) (by omega)]
      · rw [List.take_set_of_le (Nat.le_refl d)]; exact hz'.1
      · rw [h4]; exact hm
      · rw [h5, val_set _ _ _ hdq, hz'.2]
        rw [← hval]
        grind
theorem divmod_ev (a b : List Int) (ha : Lim a) (hb : Lim b) (hna : a.length < 1000000000) (hnb : b.length < 1000000000) :
    Ev (fun k => nat_DivMod.f k a b) (if val b = 0 then ([], [], 7) else (dig (val a / val b), dig (val a % val b), 0)) := by
  have va := val_nonneg ha
  have vb := val_nonneg hb
  have la := dig_length a ha
  have lb := dig_length b hb
  have na := norm_ev a ha (by omega)
  have nb := norm_ev b hb (by omega)
  by_cases hz : val b = 0
  · rw [if_pos hz]
    refine Ev.congr (f := fun _ => some _) (fun k => ?_) (Ev.now _)
    unfold nat_DivMod.f
    rw [na, nb, hz, dig_zero]
    rfl
  rw [if_neg hz]
  have hlb : 0 < (dig (val b)).length := by
    have : dig (val b) ≠ [] := by rw [Ne, dig_eq_nil vb]; exact hz
    cases h : dig (val b) with
    | nil => exact absurd h this
    | cons _ _ => simp
  have hc := cmp_ev (dig (val a)) (dig (val b)) (dig_lim _) (dig_lim _) (by omega) (by omega)
  rw [val_dig va, val_dig vb] at hc
  refine Ev.congr (fun k => by
    unfold nat_DivMod.f
    rw [na, nb, Option.bind_some, Option.bind_some, if_neg (by omega)]) (Ev.bind hc ?_)
  by_cases hlt : val a < val b
  · refine Ev.congr (f := fun _ => some _) (fun k => by unfold cmpI; rw [if_pos hlt, if_pos (by decide)]) ?_
    rw [Int.ediv_eq_zero_of_lt va hlt, Int.emod_eq_of_lt va hlt, dig_zero]
    exact Ev.now _
  have hcm : ¬ cmpI (val a) (val b) < 0 := by unfold cmpI; rw [if_neg hlt]; split <;> decide
  by_cases h1 : (dig (val b)).length = 1
  · obtain ⟨x, hx⟩ : ∃ x, dig (val b) = [x] := List.length_eq_one_iff.1 h1
    have hxb : val b = x := by rw [← val_dig vb, hx]; simp [val]
    have hx1 : x < 4294967296 := by have := dig_lim (val b) x (by rw [hx]; simp); exact this.2
    have hs := small_ev (dig (val a)) x (dig_lim _) (by omega) (by omega) (by omega)
    rw [val_dig va] at hs
    have hm0 := Int.emod_nonneg (val a) (show x ≠ 0 by omega)
    have hm1 := Int.emod_lt_of_pos (val a) (show 0 < x by omega)
    refine Ev.congr (fun k => by
      rw [if_neg hcm, if_pos (by omega), if_pos (by omega), hx, show rd [x] 0 = x from rfl, u64 (x := x) (by omega) (by omega)]) (Ev.bind hs ?_)
    refine Ev.congr (f := fun _ => some _) (fun k => ?_) (Ev.now _)
    simp only []
    rw [of_ev _ hm0 (by omega), hxb]
    rfl
  -- the great case
  have hlast := fun h => dig_last (n := val b) h
  obtain ⟨m, hm⟩ : ∃ m, (dig (val b)).length = m + 2 := ⟨(dig (val b)).length - 2, by omega⟩
  have hlen_le : (dig (val b)).length ≤ (dig (val a)).length := by
    by_cases h : (dig (val b)).length ≤ (dig (val a)).length
    · exact h
    · have := val_lt_of_length (dig_lim (val a)) (dig_lim (val b)) (by omega) hlast
      rw [val_dig va, val_dig vb] at this
      omega
  obtain ⟨e, he⟩ : ∃ e, (dig (val a)).length = e + (m + 2) := ⟨(dig (val a)).length - (m + 2), by omega⟩
  have hmb : m + 1 < (dig (val b)).length := by omega
  have gx := (dig_lim (val b)).get (m + 1) hmb
  have hx0 : (dig (val b))[m + 1] ≠ 0 := by
    have hne : dig (val b) ≠ [] := by rw [Ne, dig_eq_nil vb]; exact hz
    have := hlast hne
    rw [List.getLast_eq_getElem] at this
    simpa [hm] using this
  obtain ⟨n, z1, z2, z3, z4⟩ := lz_ev (dig (val b))[m + 1] (by omega) gx.2
  have hp := p_pos n
  have hp1 := p_le z2
  obtain ⟨u, u1, u2, u3, u4⟩ := left_ev (dig (val a)) n (dig_lim _) z2 (by omega)
  obtain ⟨vv, v1, v2, v3, v4⟩ := left_ev (dig (val b)) n (dig_lim _) z2 (by omega)
  rw [val_dig va] at u4
  rw [val_dig vb] at v4
  have hP := pw_pos (m + 1)
  -- the divisor's value, by its highest limb
  have dB : val b = val ((dig (val b)).take (m + 1)) + pw (m + 1) * (dig (val b))[m + 1] := by
    have h := val_take_succ (dig (val b)) (m + 1) hmb
    rw [List.take_of_length_le (by omega), val_dig vb] at h
    exact h
  have lB0 := val_nonneg ((dig_lim (val b)).take (m + 1))
  have lB1 := val_lt ((dig_lim (val b)).take (m + 1))
  rw [List.length_take, Nat.min_eq_left (by omega)] at lB1
  generalize hX : (dig (val b))[m + 1] = X at *
  have hBhi : val b * 2 ^ n < pw (m + 2) := by
    have h1 : (val b + 1) * 2 ^ n ≤ (pw (m + 1) * (X + 1)) * 2 ^ n := Int.mul_le_mul_of_nonneg_right (by rw [Int.mul_add]; omega) (Int.le_of_lt hp)
    have h2 : pw (m + 1) * ((X + 1) * 2 ^ n) ≤ pw (m + 1) * 4294967296 := Int.mul_le_mul_of_nonneg_left z4 (Int.le_of_lt hP)
    rw [← Int.mul_assoc] at h2
    rw [Int.add_mul, Int.one_mul] at h1
    rw [pw_succ (m + 1)]
    omega
  have hBlo : pw (m + 1) * 2147483648 ≤ val b * 2 ^ n := by
    have h1 : (pw (m + 1) * X) * 2 ^ n ≤ val b * 2 ^ n := Int.mul_le_mul_of_nonneg_right (by omega) (Int.le_of_lt hp)
    have h2 : pw (m + 1) * 2147483648 ≤ pw (m + 1) * (X * 2 ^ n) := Int.mul_le_mul_of_nonneg_left z3 (Int.le_of_lt hP)
    rw [← Int.mul_assoc] at h2
    omega
  have hvl : (vv.take (m + 2)).length = m + 2 := by rw [List.length_take]; omega
  have hvv : val (vv.take (m + 2)) = val b * 2 ^ n := by
    have h := val_take_drop vv (m + 2) (by omega)
    have h3 := val_nonneg (v3.drop (m + 2))
    have h4 := val_nonneg (v3.take (m + 2))
    have hP2 := pw_pos (m + 2)
    by_cases h0 : val (vv.drop (m + 2)) = 0
    · rw [h0] at h; omega
    · have : pw (m + 2) * 1 ≤ pw (m + 2) * val (vv.drop (m + 2)) := Int.mul_le_mul_of_nonneg_left (by omega) (by omega)
      omega
  have hLv : Lim (vv.take (m + 2)) := v3.take _
  have htop : 2147483648 ≤ (vv.take (m + 2)).getD (m + 2 - 1) 0 := by
    have hm1 : m + 1 < (vv.take (m + 2)).length := by omega
    rw [show m + 2 - 1 = m + 1 by omega, getD_get _ _ hm1]
    have h := val_take_succ (vv.take (m + 2)) (m + 1) hm1
    rw [List.take_of_length_le (by omega), hvv] at h
    have h3 := val_lt (hLv.take (m + 1))
    rw [List.length_take, Nat.min_eq_left (by omega)] at h3
    by_cases h4 : 2147483648 ≤ (vv.take (m + 2))[m + 1]
    · exact h4
    · have h5 : pw (m + 1) * ((vv.take (m + 2))[m + 1] + 1) ≤ pw (m + 1) * 2147483648 := Int.mul_le_mul_of_nonneg_left (by omega) (Int.le_of_lt hP)
      rw [Int.mul_add, Int.mul_one] at h5
      omega
  have hul : u.length = (e + 1) + (m + 2) := by omega
  have hstart : val (u.drop (e + 1)) < val b * 2 ^ n := by
    have h := val_take_drop u (e + 1) (by omega)
    have h3 := val_nonneg (u3.take (e + 1))
    have h4 := val_lt (dig_lim (val a))
    rw [val_dig va, he] at h4
    have h5 : val a * 2 ^ n < pw (e + (m + 2)) * 2 ^ n := Int.mul_lt_mul_of_pos_right h4 hp
    have h6 : pw (e + (m + 2)) = pw (e + 1) * pw (m + 1) := by rw [← pw_add]; congr 1; omega
    have h7 : pw (e + 1) * val (u.drop (e + 1)) < pw (e + 1) * (pw (m + 1) * 2 ^ n) := by
      rw [← Int.mul_assoc, ← h6]; omega
    have h8 := Int.lt_of_mul_lt_mul_left h7 (Int.le_of_lt (pw_pos _))
    have h9 : pw (m + 1) * 2 ^ n ≤ pw (m + 1) * 2147483648 := Int.mul_le_mul_of_nonneg_left hp1 (Int.le_of_lt hP)
    omega
  have hmain := divmod_l0 (dig (val b)) (vv.take (m + 2)) n (val a) (val b) z2 hLv (by omega) (by omega) (by omega) (by rw [hvl]; exact htop) hvv (e + 1) u (List.replicate (e + 1) 0) (by simp) (by simp [hvl]; omega) (by omega) u3 (Lim.zeros _) (by rw [List.take_of_length_le (by simp), val_zeros]) (by rw [hvv]; exact hstart) (by rw [u4, val_zeros]; omega)
  refine Ev.congr (fun k => by
    rw [if_neg hcm, if_neg (by omega), w64 (x := ((dig (val b)).length : Int) - 1) (by omega) (by omega), show ((dig (val b)).length : Int) - 1 = ((m + 1 : Nat) : Int) by omega, if_pos (by omega), if_pos (by omega), rd_get _ _ hmb, hX, z1, Option.bind_some]) (Ev.bind u1 ?_)
  refine Ev.congr (fun k => rfl) (Ev.bind v1 ?_)
  refine Ev.congr (fun k => ?_) hmain
  rw [if_pos (by omega), if_pos (by omega), he, hm, w64 (x := ((e + (m + 2) : Nat) : Int) - ((m + 2 : Nat) : Int)) (by omega) (by omega), w64 (x := ((e + (m + 2) : Nat) : Int) - ((m + 2 : Nat) : Int) + 1) (by omega) (by omega), show ((e + (m + 2) : Nat) : Int) - ((m + 2 : Nat) : Int) + 1 = ((e + 1 : Nat) : Int) by omega, if_pos (by omega), if_pos (by omega), Option.bind_some, Int.toNat_natCast, Int.toNat_natCast, List.length_replicate, w64 (by omega) (by omega)]

/-! ### the greatest common divisor -/
end Go.Proofs.YthnfmmaolkenkaaDoor.V
/- nat.Sub, as a number. -/
namespace Go.Proofs.YthnfmmaolkenkaaDoor.V
set_option linter.unusedVariables false
set_option linter.unusedSimpArgs false
open Go.RowKit Go.Proofs.YthnfmmaolkenkaaDoor.PA Go.Proofs.YthnfmmaolkenkaaDoor.H Go.Proofs.YthnfmmaolkenkaaDoorW.PrintWords Go.Proofs.YthnfmmaolkenkaaDoorW.PrintLast Go.Proofs.YthnfmmaolkenkaaDoorW.PrintMore

/-! ### differences -/
theorem step_sub {P V A Bv c x y q r : Int} (h : V - P * c = A - Bv) (e : r - 4294967296 * q = x - y - c) : V + P * r - (4294967296 * P) * q = A + P * x - (Bv + P * y) := by grind
theorem sub_l0 (a b : List Int) (ha : Lim a) (hb : Lim b) (hab : val b ≤ val a) (hn : a.length ≤ 1000000000000) (d : Nat) : ∀ (i : Nat) (out : List Int) (c : Int), i + d = a.length → out.length = a.length → Lim out → 0 ≤ c → c ≤ 1 → val (out.take i) - pw i * c = val (a.take i) - val (b.take i) →
    Ev (fun k => nat_Sub.l0 k a b out c (a.length : Int) (i : Int)) (dig (val a - val b), 0) := by
  induction d with
  | zero =>
    intro i out c hi ho hL c0 c1 hv
    obtain rfl : i = a.length := by omega
    refine Ev.step (f := fun _ => some _) (fun k => ?_) (Ev.now _)
    simp only [nat_Sub.l0]
    rw [if_neg (by omega), norm_ev out hL (by omega)]
    simp only [Option.bind_some]
    rw [List.take_of_length_le (by omega), List.take_of_length_le (l := a) (by omega)] at hv
    have hbt : val (b.take a.length) = val b := by
      by_cases hl : b.length ≤ a.length
      · rw [List.take_of_length_le hl]
      · have e := val_take_drop b a.length (by omega)
        have h1 := val_lt ha
        have h2 := val_nonneg (hb.take a.length)
        have h3 := val_nonneg (hb.drop a.length)
        have h4 := pw_pos a.length
        by_cases hz : val (b.drop a.length) = 0
        · rw [hz] at e; omega
        · have : pw a.length * 1 ≤ pw a.length * val (b.drop a.length) := Int.mul_le_mul_of_nonneg_left (by omega) (by omega)
          omega
    rw [hbt] at hv
    have h1 := val_lt hL
    rw [ho] at h1
    have hc : c = 0 := by
      by_cases hc : c = 0
      · exact hc
      · have : c = 1 := by omega
        subst this
        omega
    subst hc
    congr 3
    omega
  | succ d ih =>
    intro i out c hi ho hL c0 c1 hv
    have ga := ha.getD i
    have gb := hb.getD i
    have hio : i < out.length := by omega
    have e1 : IntKind.u64.wrap ((IntKind.u64.wrap (a.getD i 0 - b.getD i 0)) - c) = (a.getD i 0 - b.getD i 0 - c) % 18446744073709551616 := by
      rw [u64e, u64e]; omega
    refine Ev.step (fun k => ?_) (ih (i + 1) (out.set i ((a.getD i 0 - b.getD i 0 - c) % 18446744073709551616 % 4294967296)) ((a.getD i 0 - b.getD i 0 - c) % 18446744073709551616 / 9223372036854775808) (by omega) (by simpa using ho) (hL.set i (by omega) (by omega)) (by omega) (by omega) ?_)
    · simp only [nat_Sub.l0]
      rw [if_pos (by omega), limb_ev a i ha, limb_ev b i hb]
      simp only [Option.bind_some]
      rw [if_pos (by omega), if_pos (by omega), e1, w64 (by omega) (by omega), Int.toNat_natCast]
      rfl
    · rw [val_set_take _ _ _ hio, val_take_getD a, val_take_getD b, pw_succ]
      exact step_sub hv (by omega)
theorem sub_ev (a b : List Int) (ha : Lim a) (hb : Lim b) (hna : a.length < 1000000000) (hnb : b.length < 1000000000) : Ev (fun k => nat_Sub.f k a b) (if val a < val b then ([], 6) else (dig (val a - val b), 0)) := by
  unfold nat_Sub.f
  refine Ev.bind (f := fun k t => _) (cmp_ev a b ha hb (by omega) (by omega)) ?_
  unfold cmpI
  by_cases h : val a < val b
  · rw [if_pos h, if_pos h]
    exact Ev.congr (fun k => by rw [if_pos (by decide)]) (Ev.now _)
  · rw [if_neg h, if_neg h]
    have := sub_l0 a b ha hb (by omega) (by omega) a.length 0 (List.replicate a.length 0) 0 (by omega) (by simp) (Lim.zeros _) (by omega) (by omega) (by simp [val])
    refine Ev.congr (fun k => ?_) this
    rw [if_neg (by split <;> decide), if_pos (by omega), if_pos (by omega)]
    simp only [Option.bind_some, Int.toNat_natCast, List.length_replicate]
    rfl
end Go.Proofs.YthnfmmaolkenkaaDoor.V
/- nat.Text and nat.Parse: the digits of a number, and back. -/
namespace Go.Proofs.YthnfmmaolkenkaaDoor.V
set_option linter.unusedVariables false
set_option linter.unusedSimpArgs false
open Go.RowKit Go.Proofs.YthnfmmaolkenkaaDoor.PA Go.Proofs.YthnfmmaolkenkaaDoor.H Go.Proofs.YthnfmmaolkenkaaDoorW.PrintWords Go.Proofs.YthnfmmaolkenkaaDoorW.PrintLast Go.Proofs.YthnfmmaolkenkaaDoorW.PrintMore

theorem ba_ext {a b : ByteArray} (h : a.data.toList = b.data.toList) : a = b := by
  obtain ⟨⟨a⟩⟩ := a; obtain ⟨⟨b⟩⟩ := b
  simp only at h; rw [h]
theorem bt_nat (s : ByteArray) (i : Nat) (h : i < s.data.toList.length) : bt s (i : Int) = ((s.data.toList[i]).toNat : Int) := by
  have h' : i < s.size := by rw [Lib.size_eq]; exact h
  unfold bt
  rw [dif_pos (by simpa using h')]
  rfl
theorem size_len (s : ByteArray) : s.size = s.data.toList.length := by rw [Lib.size_eq]
theorem toList_nil (s : ByteArray) : (s.toList = ([] : List UInt8)) ↔ s.data.toList = [] := by rw [Lib.toList_data]

/-- A number's decimal digits, the highest one first; none for nought. -/
def decL (n : Nat) : List UInt8 := if h : n = 0 then [] else decL (n / 10) ++ [UInt8.ofNat (48 + n % 10)]
termination_by n
decreasing_by omega
/-- A number's text. -/
def textL (n : Nat) : List UInt8 := if n = 0 then [48] else decL n
theorem decL_zero : decL 0 = [] := by rw [decL]; rfl
theorem decL_pos {n : Nat} (h : n ≠ 0) : decL n = decL (n / 10) ++ [UInt8.ofNat (48 + n % 10)] := by rw [decL, dif_neg h]
theorem decL_ne {n : Nat} (h : n ≠ 0) : decL n ≠ [] := by rw [decL_pos h]; simp
def zero48 (c : UInt8) : Bool := c == 48
theorem ofNat48 (d : Nat) (hd : d < 10) : (UInt8.ofNat (48 + d)).toNat = 48 + d := by
  simp [UInt8.toNat_ofNat']
  omega
theorem zero48_digit (d : Nat) (hd : d < 10) : zero48 (UInt8.ofNat (48 + d)) = decide (d = 0) := by
  unfold zero48
  rw [Bool.eq_iff_iff]
  simp only [beq_iff_eq, decide_eq_true_eq]
  rw [← UInt8.toNat_inj, ofNat48 d hd]
  simp
theorem drop_append_ne {p : UInt8 → Bool} {a b : List UInt8} (h : a.dropWhile p ≠ []) : (a ++ b).dropWhile p = a.dropWhile p ++ b := by
  rw [List.dropWhile_append]
  cases hd : a.dropWhile p with
  | nil => exact absurd hd h
  | cons _ _ => simp
theorem drop_append_nil {p : UInt8 → Bool} {a b : List UInt8} (h : a.dropWhile p = []) : (a ++ b).dropWhile p = b.dropWhile p := by
  rw [List.dropWhile_append, h]
  simp
/-- Without the noughts ahead, so many digits are the number's own. -/
theorem nine_drop (k : Nat) : ∀ u, u < 10 ^ k → (nineL k u).dropWhile zero48 = decL u := by
  induction k with
  | zero =>
    intro u hu
    simp at hu
    subst hu
    simp [nineL, decL_zero]
  | succ k ih =>
    intro u hu
    rw [Nat.pow_succ] at hu
    have := ih (u / 10) (by omega)
    simp only [nineL]
    by_cases h10 : u / 10 = 0
    · rw [h10, decL_zero] at this
      rw [h10, drop_append_nil this]
      have hz := zero48_digit (u % 10) (by omega)
      by_cases h0 : u % 10 = 0
      · have hu0 : u = 0 := by omega
        rw [decide_eq_true h0] at hz
        rw [List.dropWhile_cons_of_pos hz, hu0, decL_zero]
        rfl
      · rw [decide_eq_false h0] at hz
        rw [List.dropWhile_cons_of_neg (by rw [hz]; decide), decL_pos (show u ≠ 0 by omega), h10, decL_zero]
        rfl
    · rw [drop_append_ne (by rw [this]; exact decL_ne h10), this, ← decL_pos (by omega)]
theorem dec_nine (k : Nat) : ∀ q r, q ≠ 0 → r < 10 ^ k → decL (q * 10 ^ k + r) = decL q ++ nineL k r := by
  induction k with
  | zero =>
    intro q r hq hr
    simp at hr
    subst hr
    simp [nineL]
  | succ k ih =>
    intro q r hq hr
    rw [Nat.pow_succ] at hr
    have hp := Nat.pow_pos (n := k) (show 0 < 10 by omega)
    have hqp : 0 < q * 10 ^ k := Nat.mul_pos (by omega) hp
    have e1 : q * 10 ^ (k + 1) = (q * 10 ^ k) * 10 := by rw [Nat.pow_succ, Nat.mul_assoc]
    rw [e1, decL_pos (by omega), show (q * 10 ^ k * 10 + r) / 10 = q * 10 ^ k + r / 10 by omega, ih q (r / 10) hq (by omega), show (q * 10 ^ k * 10 + r) % 10 = r % 10 by omega]
    simp [nineL]
/-- What the loop of Text puts together: nine digits at a time. -/
def chunks (n : Nat) : List UInt8 := if h : n = 0 then [] else chunks (n / 1000000000) ++ nineL 9 (n % 1000000000)
termination_by n
decreasing_by omega
theorem chunks_zero : chunks 0 = [] := by rw [chunks]; rfl
theorem chunks_pos {n : Nat} (h : n ≠ 0) : chunks n = chunks (n / 1000000000) ++ nineL 9 (n % 1000000000) := by rw [chunks, dif_neg h]
theorem chunks_drop (n : Nat) : (chunks n).dropWhile zero48 = decL n := by
  induction n using Nat.strongRecOn with
  | _ n ih =>
    by_cases h : n = 0
    · subst h; rw [chunks_zero, decL_zero]; rfl
    · rw [chunks_pos h]
      have := ih (n / 1000000000) (by omega)
      by_cases hq : n / 1000000000 = 0
      · rw [hq, decL_zero] at this
        rw [hq, drop_append_nil this, nine_drop 9 _ (by omega)]
        congr 1
        omega
      · rw [drop_append_ne (by rw [this]; exact decL_ne hq), this, ← dec_nine 9 _ _ hq (by omega)]
        congr 1
        omega
theorem trimByte_ev (n : Nat) : ∀ s : ByteArray, s.data.toList.length = n → s.size ≤ 1000000000000 → Ev (fun k => strings_trimLeftByte.l0 k s 48) ⟨(s.data.toList.dropWhile zero48).toArray⟩ := by
  induction n with
  | zero =>
    intro s hs hn
    have h0 := List.eq_nil_of_length_eq_zero hs
    have h1 : s.size = 0 := by rw [size_len, hs]
    refine Ev.step (f := fun _ => some _) (fun k => ?_) (Ev.now _)
    simp only [strings_trimLeftByte.l0]
    rw [if_neg (by omega)]
    congr 1
    apply ba_ext
    rw [h0]
    rfl
  | succ n ih =>
    intro s hs hn
    have h1 : s.size = n + 1 := by rw [size_len, hs]
    have hb : bt s 0 = ((s.data.toList[0]).toNat : Int) := bt_nat s 0 (by omega)
    obtain ⟨c, r, hcr⟩ : ∃ c r, s.data.toList = c :: r := List.exists_cons_of_length_eq_add_one hs
    have hc : (s.data.toList[0]'(by omega)) = c := by simp [hcr]
    rw [hc] at hb
    have hext : (s.extract 1 s.size).data.toList = r := by
      have hrl : r.length = n := by rw [hcr] at hs; simpa using hs
      rw [Lib.extract_data, hcr, List.drop_succ_cons, List.drop_zero, List.take_of_length_le (by omega)]
    by_cases hz : c = 48
    · subst hz
      have hrl : r.length = n := by rw [hcr] at hs; simpa using hs
      have := ih (s.extract 1 s.size) (by rw [hext]; exact hrl) (by rw [size_len, hext]; omega)
      rw [hext] at this
      refine Ev.step (fun k => ?_) (show Ev _ (⟨(s.data.toList.dropWhile zero48).toArray⟩ : ByteArray) from by rw [hcr, List.dropWhile_cons_of_pos (by rfl)]; exact this)
      simp only [strings_trimLeftByte.l0]
      rw [if_pos (by omega), if_pos (by omega), hb, if_pos (by rfl), if_pos (by omega)]
    · refine Ev.step (f := fun _ => some _) (fun k => ?_) (Ev.now _)
      simp only [strings_trimLeftByte.l0]
      have hcz : zero48 c = false := by unfold zero48; simpa using hz
      have hne : ¬ ((c.toNat : Int) = 48) := by
        intro h
        apply hz
        rw [← UInt8.toNat_inj]
        have : c.toNat = 48 := by omega
        rw [this]; rfl
      rw [if_pos (by omega), if_pos (by omega), hb, if_neg hne]
      congr 1
      apply ba_ext
      rw [hcr, List.dropWhile_cons_of_neg (by rw [hcz]; decide)]
theorem trim_ev (s : ByteArray) (hn : s.size ≤ 1000000000000) : Ev (fun k => strings_TrimLeft.f k s ⟨#[48]⟩) ⟨(s.data.toList.dropWhile zero48).toArray⟩ := by
  by_cases h : s.data.toList = []
  · refine Ev.congr (f := fun _ => some _) (fun k => ?_) (Ev.now _)
    unfold strings_TrimLeft.f
    rw [if_pos rfl, if_pos ((toList_nil s).2 h)]
    congr 1
    apply ba_ext
    rw [h]
    rfl
  · refine Ev.congr (fun k => ?_) (trimByte_ev _ s rfl hn)
    unfold strings_TrimLeft.f
    rw [if_pos rfl, if_neg (fun z => h ((toList_nil s).1 z))]
    rfl
theorem nineL_length (k u : Nat) : (nineL k u).length = k := by
  induction k generalizing u with
  | zero => rfl
  | succ k ih => simp [nineL, ih]
theorem append_data (a b : ByteArray) : (a ++ b).data.toList = a.data.toList ++ b.data.toList := by
  simp [ByteArray.data_append]
theorem text_l0 (n : Nat) : ∀ s : ByteArray, (dig n).length < 1000000000 → s.size + 9 * n ≤ s.size + 9 * n → ((chunks n ++ s.data.toList).length ≤ 1000000000000) → Ev (fun k => nat_Text.l0 k (dig n) s) (⟨(if (chunks n ++ s.data.toList).dropWhile zero48 = [] then [48] else (chunks n ++ s.data.toList).dropWhile zero48).toArray⟩ : ByteArray) := by
  induction n using Nat.strongRecOn with
  | _ n ih =>
    intro s hl _ hc
    by_cases hz : n = 0
    · subst hz
      rw [chunks_zero, List.nil_append] at hc ⊢
      rw [show ((0 : Nat) : Int) = 0 from rfl, dig_zero] at hl ⊢
      have ht := trim_ev s (by rw [size_len]; omega)
      refine Ev.step (fun k => by
        simp only [nat_Text.l0]
        rw [if_neg (by simp)]) (Ev.bind ht ?_)
      by_cases he : s.data.toList.dropWhile zero48 = []
      · refine Ev.congr (f := fun _ => some _) (fun k => ?_) (Ev.now _)
        rw [if_pos he, if_pos (by rw [toList_nil]; simpa using he)]
      · refine Ev.congr (f := fun _ => some _) (fun k => ?_) (Ev.now _)
        rw [if_neg he, if_neg (by rw [toList_nil]; simpa using he)]
    · have hsm := small_ev (dig n) 1000000000 (dig_lim _) (by omega) (by omega) hl
      rw [val_dig (by omega)] at hsm
      have e1 : (n : Int) / 1000000000 = ((n / 1000000000 : Nat) : Int) := by omega
      have e2 : (n : Int) % 1000000000 = ((n % 1000000000 : Nat) : Int) := by omega
      rw [e1, e2] at hsm
      have hlen : 0 < (dig n).length := by
        have : dig (n : Int) ≠ [] := by rw [Ne, dig_eq_nil (by omega)]; omega
        cases h : dig (n : Int) with
        | nil => exact absurd h this
        | cons _ _ => simp
      have hlq : (dig ((n / 1000000000 : Nat) : Int)).length ≤ (dig (n : Int)).length := by
        have := lt_of_dig_length (n := (n : Int)) (by omega) (Nat.le_refl _)
        exact dig_length_le (by omega) (by omega)
      have hcn := chunks_pos hz
      have hst : ((⟨(nineL 9 (n % 1000000000)).toArray⟩ : ByteArray) ++ s).data.toList = nineL 9 (n % 1000000000) ++ s.data.toList := by rw [append_data]
      have := ih (n / 1000000000) (by omega) ((⟨(nineL 9 (n % 1000000000)).toArray⟩ : ByteArray) ++ s) (by omega) (by omega) (by rw [hst, ← List.append_assoc, ← hcn]; exact hc)
      rw [hst, ← List.append_assoc, ← hcn] at this
      refine Ev.step (fun k => by
        simp only [nat_Text.l0]
        rw [if_pos (by omega)]) (Ev.bind hsm ?_)
      refine Ev.congr (fun k => ?_) this
      simp only []
      have h9 : nat_nine.f ((n % 1000000000 : Nat) : Int) = some ⟨(nineL 9 (n % 1000000000)).toArray⟩ := by
        unfold nat_nine.f
        rw [if_pos (by omega), Int.toNat_natCast]
      rw [h9, Option.bind_some, if_pos]
      have z1 : (⟨(nineL 9 (n % 1000000000)).toArray⟩ : ByteArray).size = 9 := by
        rw [size_len]; simp [nineL_length]
      rw [z1, size_len]
      rw [List.length_append] at hc
      omega
theorem chunks_length (n m : Nat) (h : (n : Int) < pw m) : (chunks n).length ≤ 18 * m := by
  induction m generalizing n with
  | zero => rw [pw_zero] at h; rw [show n = 0 by omega, chunks_zero]; simp
  | succ m ih =>
    rw [pw_succ] at h
    by_cases hz : n = 0
    · rw [hz, chunks_zero]; simp
    · rw [chunks_pos hz, List.length_append, nineL_length]
      by_cases hq : n / 1000000000 = 0
      · rw [hq, chunks_zero]; simp; omega
      · rw [chunks_pos hq, List.length_append, nineL_length]
        have := ih (n / 1000000000 / 1000000000) (by omega)
        omega
theorem text_ev (l : List Int) (h : Lim l) (hn : l.length < 1000000) : Ev (fun k => nat_Text.f k l) (⟨(textL (val l).toNat).toArray⟩ : ByteArray) := by
  have hv := val_nonneg h
  have hl := val_lt h
  have hd := dig_length l h
  have hc := chunks_length (val l).toNat l.length (by omega)
  have := text_l0 (val l).toNat (⟨#[]⟩ : ByteArray) (by rw [show (((val l).toNat : Nat) : Int) = val l by omega]; omega) (Nat.le_refl _) (by simp; omega)
  rw [show (((val l).toNat : Nat) : Int) = val l by omega] at this
  have e : (chunks (val l).toNat ++ (⟨#[]⟩ : ByteArray).data.toList).dropWhile zero48 = decL (val l).toNat := by
    rw [show (⟨#[]⟩ : ByteArray).data.toList = [] from rfl, List.append_nil, chunks_drop]
  rw [e] at this
  have e2 : (if decL (val l).toNat = [] then [48] else decL (val l).toNat) = textL (val l).toNat := by
    unfold textL
    by_cases hz : (val l).toNat = 0
    · rw [if_pos hz, hz, decL_zero, if_pos rfl]
    · rw [if_neg hz, if_neg (decL_ne hz)]
  rw [e2] at this
  refine Ev.congr (fun k => ?_) this
  unfold nat_Text.f
  rw [norm_ev l h (by omega), Option.bind_some]

/-! ### Parse -/
/-! ### digits and back -/
theorem decL_length (n m : Nat) (h : n < 10 ^ m) : (decL n).length ≤ m := by
  induction m generalizing n with
  | zero => simp at h; subst h; rw [decL_zero]; simp
  | succ m ih =>
    by_cases hz : n = 0
    · subst hz; rw [decL_zero]; simp
    · rw [Nat.pow_succ] at h
      rw [decL_pos hz]
      have := ih (n / 10) (by omega)
      simp; omega
end Go.Proofs.YthnfmmaolkenkaaDoor.V
/- What the functions of whole are, as numbers. -/
namespace Go.Proofs.YthnfmmaolkenkaaDoor.S
set_option linter.unusedVariables false
set_option linter.unusedSimpArgs false
open Go.RowKit Go.Proofs.YthnfmmaolkenkaaDoor.V Go.Proofs.YthnfmmaolkenkaaDoor.PA Go.Proofs.YthnfmmaolkenkaaDoor.H Go.Proofs.YthnfmmaolkenkaaDoorW.PrintWords Go.Proofs.YthnfmmaolkenkaaDoorW.PrintLast Go.Proofs.YthnfmmaolkenkaaDoorW.PrintMore

theorem evC {α β : Type} {o : Option α} {f : Nat → α → Option β} {a : α} {r : β} (h : o = some a) (k : Ev (fun n => f n a) r) : Ev (fun n => o.bind (f n)) r := by
 subst h; exact k
theorem evP {α : Type} {c : Prop} [Decidable c] {f g : Nat → Option α} {r : α} (h : c) (k : Ev f r) : Ev (fun n => if c then f n else g n) r := by
 simp only [if_pos h]; exact k
theorem evN {α : Type} {c : Prop} [Decidable c] {f g : Nat → Option α} {r : α} (h : ¬ c) (k : Ev g r) : Ev (fun n => if c then f n else g n) r := by
 simp only [if_neg h]; exact k
theorem evR {α : Type} {a r : α} (h : a = r) : Ev (fun _ => some a) r := by subst h; exact Ev.now _
theorem lim_wf {l : List Int} (h : ∀ x ∈ l, (Lit.int .u32 x).wf = true) : Lim l := fun x hx => by have := bounds_u32 (h x hx); omega
theorem len_add {x y : Int} (hx : 0 ≤ x) (hy : 0 ≤ y) : (dig (x + y)).length ≤ max (dig x).length (dig y).length + 1 := by
 refine dig_length_le (by omega) ?_
 have h1 := lt_of_dig_length (k := max (dig x).length (dig y).length) hx (by omega)
 have h2 := lt_of_dig_length (k := max (dig x).length (dig y).length) hy (by omega)
 rw [pw_succ]; have := pw_pos (max (dig x).length (dig y).length); omega
theorem len_mul {x y : Int} (hx : 0 ≤ x) (hy : 0 ≤ y) : (dig (x * y)).length ≤ (dig x).length + (dig y).length := by
 have h1 := lt_of_dig_length (k := (dig x).length) hx (Nat.le_refl _)
 have h2 := lt_of_dig_length (k := (dig y).length) hy (Nat.le_refl _)
 refine dig_length_le (Int.mul_nonneg hx hy) ?_
 rw [pw_add]
 have p1 := pw_pos (dig x).length
 exact Int.lt_of_le_of_lt (Int.mul_le_mul_of_nonneg_right (Int.le_of_lt h1) hy) (Int.mul_lt_mul_of_pos_left h2 p1)
theorem len_le {x y : Int} (hx : 0 ≤ x) (h : x ≤ y) : (dig x).length ≤ (dig y).length := by
 have h2 := lt_of_dig_length (k := (dig y).length) (Int.le_trans hx h) (Nat.le_refl _)
 exact dig_length_le hx (Int.lt_of_le_of_lt h h2)

/-- The number of a sign and limbs. -/
def wv (n : Bool) (l : List Int) : Int := if n then -val l else val l
def az (z : Int) : Int := if z < 0 then -z else z
theorem az_nonneg (z : Int) : 0 ≤ az z := by unfold az; split <;> omega
theorem az_neg (z : Int) : az (-z) = az z := by unfold az; split <;> split <;> omega
/-- A number in its own form. -/
def W (z : Int) : Bool × List Int := (decide (z < 0), dig (az z))
theorem W_lim (z : Int) : Lim (W z).2 := dig_lim _
theorem wv_W (z : Int) : wv (W z).1 (W z).2 = z := by
 unfold wv W az
 by_cases h : z < 0
 ·rw [decide_eq_true h, if_pos rfl, if_pos h, val_dig (by omega)]; omega
 ·rw [decide_eq_false h, if_neg Bool.false_ne_true, if_neg h, val_dig (by omega)]
theorem val_W (z : Int) : val (W z).2 = az z := val_dig (az_nonneg z)
theorem az_wv (n : Bool) {l : List Int} (h : Lim l) : az (wv n l) = val l := by
 have := val_nonneg h
 unfold az wv; cases n <;> simp <;> omega
/-- At most so many limbs. -/
def B (n : Nat) (z : Int) : Prop := (dig (az z)).length ≤ n
theorem B_in (n : Bool) {l : List Int} (h : Lim l) : B l.length (wv n l) := by unfold B; rw [az_wv n h]; exact dig_length l h
theorem B.mono {m n : Nat} {z : Int} (h : B m z) (hmn : m ≤ n) : B n z := Nat.le_trans h hmn
theorem B.neg {n : Nat} {z : Int} (h : B n z) : B n (-z) := by unfold B; rw [az_neg]; exact h
theorem B.add {m : Nat} {x y : Int} (hx : B m x) (hy : B m y) : B (m + 1) (x + y) := by
 have hl : az (x + y) ≤ az x + az y := by unfold az; split <;> split <;> split <;> omega
 have h1 := len_le (az_nonneg _) hl
 have h2 := len_add (az_nonneg x) (az_nonneg y)
 unfold B at *; omega
theorem B.sub {m : Nat} {x y : Int} (hx : B m x) (hy : B m y) : B (m + 1) (x - y) := by rw [Int.sub_eq_add_neg]; exact hx.add hy.neg
theorem az_mul (x y : Int) : az (x * y) = az x * az y := by
 unfold az
 rcases Int.lt_trichotomy x 0 with hx | hx | hx
 ·rcases Int.lt_trichotomy y 0 with hy | hy | hy
  ·have := Int.mul_pos_of_neg_of_neg hx hy
   rw [if_neg (by omega), if_pos hx, if_pos hy, Int.neg_mul_neg]
  ·subst hy; simp
  ·have := Int.mul_neg_of_neg_of_pos hx hy
   rw [if_pos this, if_pos hx, if_neg (by omega), Int.neg_mul]
 ·subst hx; simp
 ·rcases Int.lt_trichotomy y 0 with hy | hy | hy
  ·have := Int.mul_neg_of_pos_of_neg hx hy
   rw [if_pos this, if_neg (by omega), if_pos hy, Int.mul_neg]
  ·subst hy; simp
  ·have := Int.mul_pos hx hy
   rw [if_neg (by omega), if_neg (by omega), if_neg (by omega)]
theorem B.mul {m n : Nat} {x y : Int} (hx : B m x) (hy : B n y) : B (m + n) (x * y) := by
 have h2 := len_mul (az_nonneg x) (az_nonneg y)
 unfold B at *; rw [az_mul]; omega
theorem B.le {n : Nat} {x y : Int} (hy : B n y) (h : az x ≤ az y) : B n x := by
 have h1 := len_le (az_nonneg _) h
 unfold B at *; omega
theorem B.len {n : Nat} {z : Int} (h : B n z) : (W z).2.length ≤ n := h

theorem made_ev (b : Bool) (l : List Int) (h : Lim l) (hn : l.length ≤ 1000000000000) : whole_made.f b l = some (W (wv b l)) := by
 have v := val_nonneg h
 unfold whole_made.f W
 rw [norm_ev l h hn, Option.bind_some, az_wv b h]
 cases b with
 | true =>
  rw [if_pos rfl]
  congr 2
  refine decide_eq_decide.2 ?_
  have := dig_eq_nil v
  unfold wv; rw [if_pos rfl]
  constructor
  ·intro z
   have hne : ¬ val l = 0 := fun y => by rw [this.2 y] at z; simp at z
   omega
  ·intro z
   have hne : dig (val l) ≠ [] := fun y => by have := this.1 y; omega
   have := List.length_pos_iff.2 hne
   omega
 | false =>
  rw [if_neg (by decide)]
  congr 2
  unfold wv; rw [if_neg (by decide)]
  exact (decide_eq_false (by omega)).symm
theorem made2 (b : Bool) (l : List Int) (h : Lim l) (hn : l.length ≤ 1000000000000) : ((whole_made.f b l).bind fun bt => some (bt.1, bt.2)) = some (W (wv b l)) := by
 rw [made_ev b l h hn]; rfl
theorem wNorm_ev (b : Bool) (l : List Int) (h : Lim l) (hn : l.length ≤ 1000000000000) : whole_Norm.f b l = some (W (wv b l)) := made2 b l h hn
theorem wNeg_ev (b : Bool) (l : List Int) (h : Lim l) (hn : l.length ≤ 1000000000000) : whole_Neg.f b l = some (W (-wv b l)) := by
 unfold whole_Neg.f
 rw [made2 _ l h hn]
 congr 2; unfold wv; cases b <;> simp
def sg (z : Int) : Int := if z < 0 then -1 else if z > 0 then 1 else 0
theorem dig_az (z : Int) : ((dig (az z)).length : Int) > 0 ↔ z ≠ 0 := by
 have := dig_eq_nil (az_nonneg z)
 have e : az z = 0 ↔ z = 0 := by unfold az; split <;> omega
 constructor
 ·intro h hz
  rw [this.2 (e.2 hz)] at h; simp at h
 ·intro h
  have hne : dig (az z) ≠ [] := fun y => h (e.1 (this.1 y))
  have := List.length_pos_iff.2 hne
  omega
theorem wSign_ev (b : Bool) (l : List Int) (h : Lim l) (hn : l.length ≤ 1000000000000) : whole_Sign.f b l = some (sg (wv b l)) := by
 unfold whole_Sign.f
 rw [wNorm_ev b l h hn, Option.bind_some]
 generalize wv b l = z
 unfold W sg
 by_cases h1 : z < 0
 ·rw [decide_eq_true h1, if_pos rfl, if_pos h1]
 ·rw [decide_eq_false h1, if_neg Bool.false_ne_true, if_neg h1]
  by_cases h2 : z > 0
  ·rw [if_pos ((dig_az z).2 (by omega)), if_pos h2]
  ·rw [if_neg (fun y => (dig_az z).1 y (by omega)), if_neg h2]
theorem wOf_ev (n : Int) (h0 : -9223372036854775808 ≤ n) (h1 : n ≤ 9223372036854775807) : whole_Of.f n = some (W n) := by
 unfold whole_Of.f
 by_cases h : n < 0
 ·have e : IntKind.u64.wrap (-(IntKind.u64.wrap n)) = -n := by rw [u64e, u64e]; omega
  have hl : (dig (-n)).length ≤ 2 := dig_length_le (by omega) (by rw [show pw 2 = 18446744073709551616 from rfl]; omega)
  rw [if_pos h, e, of_ev (-n) (by omega) (by omega), Option.bind_some, made2 true _ (dig_lim _) (by omega)]
  congr 2; unfold wv; rw [if_pos rfl, val_dig (by omega)]; omega
 ·have e : IntKind.u64.wrap n = n := by rw [u64e]; omega
  have hl : (dig n).length ≤ 2 := dig_length_le (by omega) (by rw [show pw 2 = 18446744073709551616 from rfl]; omega)
  rw [if_neg h, e, of_ev n (by omega) (by omega), Option.bind_some, made2 false _ (dig_lim _) (by omega)]
  congr 2; unfold wv; rw [if_neg (by decide), val_dig (by omega)]
theorem wAdd_ev (a b : Bool) (x y : List Int) (hx : Lim x) (hy : Lim y) (nx : x.length < 1000000000) (ny : y.length < 1000000000) : Ev (fun k => whole_Add.f k a x b y) (W (wv a x + wv b y)) := by
 have vx := val_nonneg hx
 have vy := val_nonneg hy
 have dx := dig_length x hx
 have dy := dig_length y hy
 have lxy := len_add vx vy
 by_cases h : a = b
 ·subst h
  refine Ev.congr (fun k => rfl) (evP (by simp) (Ev.bind (add_ev x y hx hy nx ny) ?_))
  refine Ev.congr (fun k => made2 a _ (dig_lim _) (by omega)) (evR ?_)
  congr 1; unfold wv; rw [val_dig (by omega)]; cases a <;> simp <;> omega
 ·have hb : b = !a := by cases a <;> cases b <;> simp_all
  refine Ev.congr (fun k => rfl) (evN (by simpa using h) (Ev.bind (cmp_ev x y hx hy (by omega) (by omega)) ?_))
  by_cases hlt : val x < val y
  ·have l1 := len_le (x := val y - val x) (y := val y) (by omega) (by omega)
   refine evP (by unfold cmpI; rw [if_pos hlt]; decide) (Ev.bind (sub_ev y x hy hx ny nx) ?_)
   rw [if_neg (by omega)]
   refine Ev.congr (fun k => made2 b _ (dig_lim _) (by show (dig (val y - val x)).length ≤ _; omega)) (evR ?_)
   congr 1; show wv b (dig (val y - val x)) = _; rw [hb]; unfold wv; rw [val_dig (by omega)]; cases a <;> simp <;> omega
  ·have l1 := len_le (x := val x - val y) (y := val x) (by omega) (by omega)
   refine evN (by unfold cmpI; rw [if_neg hlt]; split <;> decide) (Ev.bind (sub_ev x y hx hy nx ny) ?_)
   rw [if_neg (by omega)]
   refine Ev.congr (fun k => made2 a _ (dig_lim _) (by show (dig (val x - val y)).length ≤ _; omega)) (evR ?_)
   congr 1; show wv a (dig (val x - val y)) = _; rw [hb]; unfold wv; rw [val_dig (by omega)]; cases a <;> simp <;> omega
theorem pair_ev {α β : Type} {f : Nat → Option (α × β)} {r : α × β} (h : Ev f r) : Ev (fun k => (f k).bind fun bt => some (bt.1, bt.2)) r := Ev.bind h (evR rfl)
theorem wSub_ev (a b : Bool) (x y : List Int) (hx : Lim x) (hy : Lim y) (nx : x.length < 1000000000) (ny : y.length < 1000000000) : Ev (fun k => whole_Sub.f k a x b y) (W (wv a x - wv b y)) := by
 have bl := (B_in b hy).neg.len
 refine Ev.congr (fun k => rfl) (evC (wNeg_ev b y hy (by omega)) (pair_ev ?_))
 have := wAdd_ev a (W (-wv b y)).1 x (W (-wv b y)).2 hx (W_lim _) nx (by omega)
 rw [wv_W, ← Int.sub_eq_add_neg] at this
 exact this
theorem wMul_ev (a b : Bool) (x y : List Int) (hx : Lim x) (hy : Lim y) (nx : x.length < 100000000) (ny : y.length < 100000000) : Ev (fun k => whole_Mul.f k a x b y) (W (wv a x * wv b y)) := by
 have vx := val_nonneg hx
 have vy := val_nonneg hy
 have dx := dig_length x hx
 have dy := dig_length y hy
 have lxy := len_mul vx vy
 refine Ev.congr (fun k => rfl) (Ev.bind (mul_ev x y hx hy (by omega) (by omega)) ?_)
 refine Ev.congr (fun k => made2 _ _ (dig_lim _) (by omega)) (evR ?_)
 congr 1; unfold wv; rw [val_dig (Int.mul_nonneg vx vy)]; cases a <;> cases b <;> simp [Int.neg_mul, Int.mul_neg]
theorem wCmp_ev (a b : Bool) (x y : List Int) (hx : Lim x) (hy : Lim y) (nx : x.length < 100000000) (ny : y.length < 100000000) : Ev (fun k => whole_Cmp.f k a x b y) (sg (wv a x - wv b y)) := by
 have h1 := ((B_in a hx).mono (Nat.le_max_left x.length y.length)).sub ((B_in b hy).mono (Nat.le_max_right x.length y.length))
 have := h1.len
 refine Ev.congr (fun k => rfl) (Ev.bind (wSub_ev a b x y hx hy (by omega) (by omega)) ?_)
 refine evC (wSign_ev _ _ (W_lim _) (by omega)) (evR ?_)
 rw [wv_W]
theorem euclid {a b q r : Int} (hb : b ≠ 0) (h : b * q + r = a) (h0 : 0 ≤ r) (h1 : r < b.natAbs) : a / b = q ∧ a % b = r := by
 by_cases hp : 0 < b
 ·exact div_unique hp (by rw [Int.mul_comm]; exact h) h0 (by omega)
 ·have := div_unique (a := a) (b := -b) (q := -q) (r := r) (by omega) (by rw [Int.neg_mul_neg, Int.mul_comm]; exact h) h0 (by omega)
  rw [Int.ediv_neg, Int.emod_neg] at this
  exact ⟨by omega, this.2⟩
theorem lim1 : Lim [1] := lim_one (by omega) (by omega)
theorem wDivMod_ev (a b : Bool) (x y : List Int) (hx : Lim x) (hy : Lim y) (nx : x.length < 100000000) (ny : y.length < 100000000) :
  Ev (fun k => whole_DivMod.f k a x b y) (if wv b y = 0 then (false, [], false, [], 7) else ((W (wv a x / wv b y)).1, (W (wv a x / wv b y)).2, (W (wv a x % wv b y)).1, (W (wv a x % wv b y)).2, 0)) := by
 have bx := B_in a hx
 have by' := B_in b hy
 refine Ev.congr (fun k => rfl) (evC (wNorm_ev a x hx (by omega)) (evC (wNorm_ev b y hy (by omega)) ?_))
 generalize wv a x = p at *
 generalize wv b y = q at *
 have lp := bx.len
 have lq := by'.len
 refine Ev.bind (divmod_ev _ _ (W_lim p) (W_lim q) (by omega) (by omega)) ?_
 rw [val_W, val_W]
 by_cases h0 : q = 0
 ·subst h0
  rw [show az 0 = 0 from rfl, if_pos rfl, if_pos rfl]
  exact evN (by decide) (evR rfl)
 have hq : az q ≠ 0 := by unfold az; split <;> omega
 have hq0 := az_nonneg q
 have hp0 := az_nonneg p
 rw [if_neg hq, if_neg h0]
 refine evP rfl ?_
 have d0 : 0 ≤ az p / az q := Int.ediv_nonneg hp0 hq0
 have m0 : 0 ≤ az p % az q := Int.emod_nonneg _ hq
 have m1 : az p % az q < az q := Int.emod_lt_of_pos _ (by omega)
 have dm : az q * (az p / az q) + az p % az q = az p := Int.mul_ediv_add_emod _ _
 have dle : az p / az q ≤ az p := Int.ediv_le_self _ hp0
 have l1 := len_le d0 dle
 have l2 := len_le m0 (Int.le_of_lt m1)
 have lW : ∀ z : Int, (W z).2.length = (dig (az z)).length := fun z => rfl
 rw [lW] at lp lq
 have plain : (p < 0 → az p % az q = 0) → p / q = wv (decide (p < 0) != decide (q < 0)) (dig (az p / az q)) ∧ p % q = az p % az q := by
  intro hs
  have hu : q * wv (decide (p < 0) != decide (q < 0)) (dig (az p / az q)) + az p % az q = p := by
   unfold wv
   rw [val_dig d0]
   generalize az p / az q = D at *
   unfold az at *
   by_cases h1 : p < 0
   ·have := hs h1
    by_cases h2 : q < 0
    ·simp only [h1, h2, decide_true, bne_self_eq_false, Bool.false_eq_true, if_false, if_true] at *
     grind
    ·simp only [h1, h2, decide_true, decide_false, if_false, if_true] at *
     simp at *
     grind
   ·by_cases h2 : q < 0
    ·simp only [h1, h2, decide_true, decide_false, if_false, if_true] at *
     simp at *
     grind
    ·simp only [h1, h2, decide_false, bne_self_eq_false, Bool.false_eq_true, if_false] at *
     exact dm
  have hr : az p % az q < q.natAbs := by
   have : az q = q.natAbs := by unfold az; split <;> omega
   omega
  exact euclid h0 hu m0 hr
 have hlen : ((dig (az p % az q)).length : Int) = 0 ↔ az p % az q = 0 := by
  have := dig_eq_nil m0
  rw [← this, ← List.length_eq_zero_iff]; omega
 have pos : (p < 0 → az p % az q = 0) → Ev (fun k => whole_DivMod.j0 k (dig (az p / az q)) (dig (az p % az q)) true (W p).1 (W p).2 (W q).1 (W q).2) ((W (p / q)).1, (W (p / q)).2, (W (p % q)).1, (W (p % q)).2, 0) := by
  intro hs
  obtain ⟨e1, e2⟩ := plain hs
  refine Ev.step (fun k => by rw [whole_DivMod.j0]) (evP rfl ?_)
  refine evC (made_ev _ _ (dig_lim _) (by omega)) (evC (made_ev _ _ (dig_lim _) (by omega)) (evR ?_))
  have e3 : wv false (dig (az p % az q)) = p % q := by unfold wv; rw [if_neg (by decide), val_dig m0, e2]
  show ((W (wv (decide (p < 0) != decide (q < 0)) (dig (az p / az q)))).1, (W (wv (decide (p < 0) != decide (q < 0)) (dig (az p / az q)))).2, (W (wv false (dig (az p % az q)))).1, (W (wv false (dig (az p % az q)))).2, (0 : Int)) = _
  rw [e3, ← e1]
 by_cases h1 : p < 0
 ·have hW : (W p).1 = true := decide_eq_true h1
  refine evP hW ?_
  by_cases h2 : az p % az q = 0
  ·have e : (((dig (az p % az q)).length : Int) == 0) = true := beq_iff_eq.2 (hlen.2 h2)
   simp only [e]
   exact pos (fun _ => h2)
  ·have e : (((dig (az p % az q)).length : Int) == 0) = false := by rw [beq_eq_false_iff_ne]; exact fun z => h2 (hlen.1 z)
   simp only [e]
   have l3 := len_le (x := az q - az p % az q) (y := az q) (by omega) (by omega)
   have l4 := len_add d0 (show (0 : Int) ≤ 1 by omega)
   have l5 : (dig 1).length ≤ 1 := dig_length_le (by omega) (by rw [show pw 1 = 4294967296 from rfl]; omega)
   have Sb := sub_ev (W q).2 (dig (az p % az q)) (W_lim q) (dig_lim _) (by rw [lW]; omega) (by omega)
   rw [val_W, val_dig m0, if_neg (by omega)] at Sb
   have Ad := add_ev (dig (az p / az q)) [1] (dig_lim _) lim1 (by omega) (by decide)
   rw [val_dig d0, val_one] at Ad
   refine Ev.step (fun k => by rw [whole_DivMod.j0]) (evN (by decide) ?_)
   refine Ev.bind Sb (Ev.bind Ad (evC (made_ev _ _ (dig_lim _) (by omega)) (evC (made_ev _ _ (dig_lim _) (by show (dig (az q - az p % az q)).length ≤ _; omega)) (evR ?_))))
   have e3 : wv false (dig (az q - az p % az q)) = az q - az p % az q := by unfold wv; rw [if_neg (by decide), val_dig (by omega)]
   have hu : q * wv ((W p).1 != (W q).1) (dig (az p / az q + 1)) + (az q - az p % az q) = p := by
    unfold wv
    rw [val_dig (by omega)]
    generalize az p / az q = D at *
    unfold W
    unfold az at *
    by_cases h2 : q < 0
    ·simp only [h1, h2, decide_true, bne_self_eq_false, Bool.false_eq_true, if_false, if_true] at *
     grind
    ·simp only [h1, h2, decide_true, decide_false, if_false, if_true] at *
     simp at *
     grind
   have hr : az q = q.natAbs := by unfold az; split <;> omega
   obtain ⟨z1, z2⟩ := euclid h0 hu (by omega) (by omega)
   show (_, _, (W (wv false (dig (az q - az p % az q)))).1, (W (wv false (dig (az q - az p % az q)))).2, (0 : Int)) = _
   rw [e3, z1, z2]
 ·have hW : (W p).1 = false := decide_eq_false h1
  exact evN (by rw [hW]; decide) (pos (fun y => absurd y h1))
/-- Rounded down. -/
def fl (a b : Int) : Int := if b < 0 then -a / -b else a / b
theorem sg_neg (z : Int) : sg z < 0 ↔ z < 0 := by unfold sg; split <;> (try split) <;> omega
theorem wFloor_ev (a b : Bool) (x y : List Int) (hx : Lim x) (hy : Lim y) (nx : x.length < 100000000) (ny : y.length < 100000000) :
  Ev (fun k => whole_Floor.f k a x b y) (if wv b y = 0 then (false, [], 7) else ((W (fl (wv a x) (wv b y))).1, (W (fl (wv a x) (wv b y))).2, 0)) := by
 have bx := (B_in a hx).neg.len
 have by' := (B_in b hy).neg.len
 refine Ev.congr (fun k => rfl) (evC (wSign_ev b y hy (by omega)) ?_)
 by_cases h : wv b y < 0
 ·refine evP ((sg_neg _).2 h) (evC (wNeg_ev a x hx (by omega)) (evC (wNeg_ev b y hy (by omega)) ?_))
  have D := wDivMod_ev (W (-wv a x)).1 (W (-wv b y)).1 (W (-wv a x)).2 (W (-wv b y)).2 (W_lim _) (W_lim _) (by omega) (by omega)
  rw [wv_W, wv_W, if_neg (by omega)] at D
  refine Ev.bind D (evR ?_)
  rw [if_neg (by omega)]; unfold fl; rw [if_pos h]
 ·refine evN (fun z => h ((sg_neg _).1 z)) (Ev.bind (wDivMod_ev a b x y hx hy nx ny) (evR ?_))
  unfold fl; rw [if_neg h]
  split <;> rfl
end Go.Proofs.YthnfmmaolkenkaaDoor.S
/- The reference's numbers by bits, the lowest one first: what its functions compute, as numbers. -/
namespace Go.Proofs.YthnfmmaolkenkaaDoor.V
set_option linter.unusedVariables false
set_option linter.unusedSimpArgs false
open Go.RowKit Go.Proofs.YthnfmmaolkenkaaDoor.PA Go.Proofs.YthnfmmaolkenkaaDoor.H Go.Proofs.YthnfmmaolkenkaaDoorW.PrintWords Go.Proofs.YthnfmmaolkenkaaDoorW.PrintLast Go.Proofs.YthnfmmaolkenkaaDoorW.PrintMore

def p2 (n : Nat) : Int := 2 ^ n
/-- A number's bits, without noughts behind. -/
def bitN (n : Nat) : List Bool := if h : n = 0 then [] else decide (n % 2 = 1) :: bitN (n / 2)
termination_by n
decreasing_by omega
def bits (n : Int) : List Bool := bitN n.toNat
/-! ### order -/
/-! ### sums -/
end Go.Proofs.YthnfmmaolkenkaaDoor.V
/- What whole's texts and small numbers are; the chapter's examples. -/
namespace Go.Proofs.YthnfmmaolkenkaaDoor.S
set_option linter.unusedVariables false
set_option linter.unusedSimpArgs false
open Go.RowKit Go.Proofs.YthnfmmaolkenkaaDoor.V Go.Proofs.YthnfmmaolkenkaaDoor.PA Go.Proofs.YthnfmmaolkenkaaDoor.H Go.Proofs.YthnfmmaolkenkaaDoorW.PrintWords Go.Proofs.YthnfmmaolkenkaaDoorW.PrintLast Go.Proofs.YthnfmmaolkenkaaDoorW.PrintMore

/-- A number's digits, the sign ahead. -/
def wtext (z : Int) : List UInt8 := if z < 0 then 45 :: textL (az z).toNat else textL (az z).toNat
theorem textL_len {m : Nat} {z : Int} (h0 : 0 ≤ z) (h : B m z) (hm : m ≤ 1000) : (textL z.toNat).length ≤ 10 * m + 10 := by
 have hz : az z = z := by unfold az; rw [if_neg (by omega)]
 unfold B at h; rw [hz] at h
 have h1 := lt_of_dig_length h0 h
 unfold textL
 split
 ·rw [List.length_singleton]; omega
 ·have : z.toNat < 10 ^ (10 * m) := by
   have e : (4294967296 : Nat) ^ m ≤ 10 ^ (10 * m) := by
    rw [Nat.pow_mul]; exact Nat.pow_le_pow_left (by decide) m
   have h2 : (z.toNat : Int) < ((4294967296 ^ m : Nat) : Int) := by
    have : pw m = ((4294967296 ^ m : Nat) : Int) := by unfold pw; exact (Int.natCast_pow 4294967296 m).symm
    omega
   omega
  have := decL_length z.toNat (10 * m) this
  omega
theorem wText_ev (b : Bool) (l : List Int) (h : Lim l) (hn : l.length ≤ 1000) : Ev (fun k => whole_Text.f k b l) (⟨(wtext (wv b l)).toArray⟩ : ByteArray) := by
 have bl := B_in b h
 have tl := textL_len (m := l.length) (z := az (wv b l)) (az_nonneg _) (by
  have : az (az (wv b l)) = az (wv b l) := by have := az_nonneg (wv b l); rw [show az (az (wv b l)) = if az (wv b l) < 0 then -az (wv b l) else az (wv b l) from rfl, if_neg (by omega)]
  unfold B at *; rw [this]; exact bl) hn
 refine Ev.congr (fun k => rfl) (evC (wNorm_ev b l h (by omega)) ?_)
 generalize wv b l = z at *
 have T := text_ev (W z).2 (W_lim z) (by have := bl.len; omega)
 rw [val_W] at T
 unfold wtext
 by_cases h0 : z < 0
 ·refine evP (decide_eq_true h0) (Ev.bind T (evP ?_ (evR ?_)))
  ·show 1 + (textL (az z).toNat).toArray.size ≤ 9223372036854775807
   rw [List.size_toArray]; omega
  ·rw [if_pos h0]; rfl
 ·refine evN (by rw [show (W z).1 = false from decide_eq_false h0]; decide) (Ev.bind T (evR ?_))
  rw [if_neg h0]
theorem few_ev (a b : Bool) (x y : List Int) (n : Nat) : gudgeonlaw02_few.f a x b y (n : Int) = some (decide (x.length ≤ n) && decide (y.length ≤ n)) := by
 unfold gudgeonlaw02_few.f
 by_cases h : x.length ≤ n
 ·rw [if_pos (by omega), decide_eq_true h, Bool.true_and]
  congr 1; exact decide_eq_decide.2 (by omega)
 ·rw [if_neg (by omega), decide_eq_false h, Bool.false_and]
theorem few_no {x y : List Int} {n : Nat} (h : ¬ (x.length ≤ n ∧ y.length ≤ n)) : (decide (x.length ≤ n) && decide (y.length ≤ n)) = false := by
 by_cases h1 : x.length ≤ n
 ·have : ¬ y.length ≤ n := fun z => h ⟨h1, z⟩
  rw [decide_eq_false this, Bool.and_false]
 ·rw [decide_eq_false h1, Bool.false_and]
theorem B1 {z : Int} (h : az z < 4294967296) : B 1 z := by
 unfold B; exact dig_length_le (az_nonneg z) (by rw [show pw 1 = 4294967296 from rfl]; omega)
theorem wText_W (z : Int) (m : Nat) (hm : m ≤ 1000) (h : B m z) : Ev (fun k => whole_Text.f k (W z).1 (W z).2) (⟨(wtext z).toArray⟩ : ByteArray) := by
 have := wText_ev (W z).1 (W z).2 (W_lim z) (by have := h.len; omega)
 rw [wv_W] at this; exact this
theorem wDivMod_W (x y : Int) (h0 : y ≠ 0) (hx : B 1000 x) (hy : B 1000 y) : Ev (fun k => whole_DivMod.f k (W x).1 (W x).2 (W y).1 (W y).2) ((W (x / y)).1, (W (x / y)).2, (W (x % y)).1, (W (x % y)).2, 0) := by
 have := wDivMod_ev (W x).1 (W y).1 (W x).2 (W y).2 (W_lim _) (W_lim _) (by have := hx.len; omega) (by have := hy.len; omega)
 rw [wv_W, wv_W, if_neg h0] at this; exact this
theorem wFloor_W (x y : Int) (h0 : y ≠ 0) (hx : B 1000 x) (hy : B 1000 y) : Ev (fun k => whole_Floor.f k (W x).1 (W x).2 (W y).1 (W y).2) ((W (fl x y)).1, (W (fl x y)).2, 0) := by
 have := wFloor_ev (W x).1 (W y).1 (W x).2 (W y).2 (W_lim _) (W_lim _) (by have := hx.len; omega) (by have := hy.len; omega)
 rw [wv_W, wv_W, if_neg h0] at this; exact this
theorem awake_ev : Ev (fun k => gudgeonlaw02_awake.f k) true := by
 have b7 : B 1 (-7) := B1 (by decide)
 have b2 : B 1 2 := B1 (by decide)
 have bm2 : B 1 (-2) := B1 (by decide)
 have bp7 : B 1 7 := B1 (by decide)
 have D1 := wDivMod_W (-7) 2 (by decide) (b7.mono (by omega)) (b2.mono (by omega))
 have D2 := wDivMod_W (-7) (-2) (by decide) (b7.mono (by omega)) (bm2.mono (by omega))
 have F := wFloor_W 7 (-2) (by decide) (bp7.mono (by omega)) (bm2.mono (by omega))
 have e1 : (-7 : Int) / 2 = -4 := by decide
 have e2 : (-7 : Int) % 2 = 1 := by decide
 have e3 : (-7 : Int) / (-2) = 4 := by decide
 have e4 : (-7 : Int) % (-2) = 1 := by decide
 have e5 : fl 7 (-2) = -4 := by decide
 rw [e1, e2] at D1
 rw [e3, e4] at D2
 rw [e5] at F
 have T1 := wText_W (-4) 1 (by omega) (B1 (by decide))
 have T2 := wText_W 1 1 (by omega) (B1 (by decide))
 have T3 := wText_W 4 1 (by omega) (B1 (by decide))
 have x1 : (⟨(wtext (-4)).toArray⟩ : ByteArray).toList = [45, 52] := by rw [Lib.toList_data]; decide +kernel
 have x2 : (⟨(wtext 1).toArray⟩ : ByteArray).toList = [49] := by rw [Lib.toList_data]; decide +kernel
 have x3 : (⟨(wtext 4).toArray⟩ : ByteArray).toList = [52] := by rw [Lib.toList_data]; decide +kernel
 refine Ev.congr (fun k => rfl) (evC (wOf_ev (-7) (by decide) (by decide)) (evC (wOf_ev 2 (by decide) (by decide)) (Ev.bind D1 (evC (wOf_ev (-7) (by decide) (by decide)) (evC (wOf_ev (-2) (by decide) (by decide)) (Ev.bind D2 (evC (wOf_ev 7 (by decide) (by decide)) (evC (wOf_ev (-2) (by decide) (by decide)) (Ev.bind F ?_)))))))))
 refine evP rfl (evP rfl (evP rfl ?_))
 refine Ev.bind T1 (evP x1 (Ev.bind T2 (evP x2 (Ev.bind T3 (evP x3 (Ev.bind T2 (evP x2 (Ev.bind T1 (evR ?_)))))))))
 rw [x1]; rfl
end Go.Proofs.YthnfmmaolkenkaaDoor.S
/- The law WholeBack, in plain Lean. -/
namespace Go.Proofs.YthnfmmaolkenkaaDoor.S
set_option linter.unusedVariables false
set_option linter.unusedSimpArgs false
open Go.RowKit Go.Proofs.YthnfmmaolkenkaaDoor.V Go.Proofs.YthnfmmaolkenkaaDoor.PA Go.Proofs.YthnfmmaolkenkaaDoor.H Go.Proofs.YthnfmmaolkenkaaDoorW.PrintWords Go.Proofs.YthnfmmaolkenkaaDoorW.PrintLast Go.Proofs.YthnfmmaolkenkaaDoorW.PrintMore

theorem kAz_fl (p q : Int) (hq : q ≠ 0) : az (p / q) ≤ az p + 1 := by
 have h1 := Int.mul_ediv_add_emod p q
 have h2 := Int.emod_nonneg p hq
 have h3 := Int.emod_lt p hq
 have h4 : (1 : Int) ≤ q.natAbs := by omega
 have h5 : az (q * (p / q)) = az q * az (p / q) := az_mul _ _
 have h6 : az q = q.natAbs := by unfold az; split <;> omega
 have h7 : az (q * (p / q)) ≤ az p + (q.natAbs - 1) := by unfold az; split <;> split <;> omega
 rw [h5, h6] at h7
 have h8 := az_nonneg (p / q)
 have h9 := az_nonneg p
 rcases Int.lt_or_le (az p + 1) (az (p / q)) with z | z
 ·exfalso
  have := Int.mul_le_mul_of_nonneg_left (show az p + 2 ≤ az (p / q) by omega) (show (0 : Int) ≤ q.natAbs by omega)
  have h10 : (q.natAbs : Int) * (az p + 2) = q.natAbs * az p + 2 * q.natAbs := by rw [Int.mul_add]; omega
  have h11 := Int.mul_le_mul_of_nonneg_right h4 h9
  omega
 ·exact z
theorem kSg0 {z : Int} (h : z = 0) : sg z = 0 := by subst h; rfl
theorem kSgN {z : Int} (h : 0 ≤ z) : sg z ≥ 0 := by unfold sg; split <;> (try split) <;> omega
theorem kCmpB (p q : Int) (hp : B 1000 p) (hq : B 1000 q) : Ev (fun k => whole_Cmp.f k (W p).1 (W p).2 (W q).1 (W q).2) (sg (p - q)) := by
 have := wCmp_ev (W p).1 (W q).1 (W p).2 (W q).2 (W_lim _) (W_lim _) (by have := hp.len; omega) (by have := hq.len; omega)
 rw [wv_W, wv_W] at this; exact this
theorem kCmpL (p : Int) (hp : B 1000 p) (c : Bool) (z : List Int) (hz : Lim z) (nz : z.length ≤ 1000) : Ev (fun k => whole_Cmp.f k (W p).1 (W p).2 c z) (sg (p - wv c z)) := by
 have := wCmp_ev (W p).1 c (W p).2 z (W_lim _) hz (by have := hp.len; omega) (by omega)
 rw [wv_W] at this; exact this
theorem kMulL (p : Int) (hp : B 1000 p) (c : Bool) (z : List Int) (hz : Lim z) (nz : z.length ≤ 1000) : Ev (fun k => whole_Mul.f k (W p).1 (W p).2 c z) (W (p * wv c z)) := by
 have := wMul_ev (W p).1 c (W p).2 z (W_lim _) hz (by have := hp.len; omega) (by omega)
 rw [wv_W] at this; exact this
theorem kSubR (c : Bool) (z : List Int) (hz : Lim z) (nz : z.length ≤ 1000) (p : Int) (hp : B 1000 p) : Ev (fun k => whole_Sub.f k c z (W p).1 (W p).2) (W (wv c z - p)) := by
 have := wSub_ev c (W p).1 z (W p).2 hz (W_lim _) (by omega) (by have := hp.len; omega)
 rw [wv_W] at this; exact this
theorem kAddB (p q : Int) (hp : B 1000 p) (hq : B 1000 q) : Ev (fun k => whole_Add.f k (W p).1 (W p).2 (W q).1 (W q).2) (W (p + q)) := by
 have := wAdd_ev (W p).1 (W q).1 (W p).2 (W q).2 (W_lim _) (W_lim _) (by have := hp.len; omega) (by have := hq.len; omega)
 rw [wv_W, wv_W] at this; exact this
theorem kSign (p : Int) (hp : B 1000 p) : whole_Sign.f (W p).1 (W p).2 = some (sg p) := by
 have := wSign_ev (W p).1 (W p).2 (W_lim _) (by have := hp.len; omega)
 rw [wv_W] at this; exact this
theorem kNeg (p : Int) (hp : B 1000 p) : whole_Neg.f (W p).1 (W p).2 = some (W (-p)) := by
 have := wNeg_ev (W p).1 (W p).2 (W_lim _) (by have := hp.len; omega)
 rw [wv_W] at this; exact this
theorem WholeBack (a : Bool) (x : List Int) (hx : Lim x) (b : Bool) (y : List Int) (hy : Lim y) : ∃ k, gudgeonlaw02_WholeBack.f k a x b y = some true := by
 have stop : Ev (fun k => gudgeonlaw02_WholeBack.j0 k true true a x b y) true := Ev.step (fun k => by rw [gudgeonlaw02_WholeBack.j0]) (evP rfl (evR rfl))
 refine Ev.rounds ?_
 refine Ev.congr (fun k => rfl) (Ev.bind awake_ev (evC (few_ev a b x y 60) (evP rfl ?_)))
 by_cases hf : x.length ≤ 60 ∧ y.length ≤ 60
 rotate_left
 ·rw [few_no hf]; exact stop
 rw [decide_eq_true hf.1, decide_eq_true hf.2]
 show Ev (fun k => gudgeonlaw02_WholeBack.j0 k true false a x b y) true
 have bp := (B_in a hx).mono hf.1
 have bq := (B_in b hy).mono hf.2
 have nx : x.length ≤ 1000 := by omega
 have ny : y.length ≤ 1000 := by omega
 have D := wDivMod_ev a b x y hx hy (by omega) (by omega)
 have F := wFloor_ev a b x y hx hy (by omega) (by omega)
 have Sb := wSign_ev b y hy (by omega)
 refine Ev.step (fun k => by rw [gudgeonlaw02_WholeBack.j0]) (evN Bool.false_ne_true ?_)
 refine Ev.bind D (Ev.bind F ?_)
 by_cases h0 : wv b y = 0
 ·simp only [if_pos h0]
  refine evN (by decide) (Ev.step (fun k => by rw [gudgeonlaw02_WholeBack.j1]) (evP rfl ?_))
  refine evP rfl (evP rfl (evC Sb (evR ?_)))
  rw [kSg0 h0]; rfl
 simp only [if_neg h0]
 first | refine evP rfl ?_ | refine evP trivial ?_
 have Nb := wNeg_ev b y hy (by omega)
 have up : ∀ p : Int, B 60 p → B 62 (p / wv b y) := by
  intro p hp
  have h1 : B 61 (az p + 1) := by
   have e : B 60 (az p) := by
    have : az (az p) = az p := by have := az_nonneg p; unfold az at *; split <;> (try split) <;> omega
    unfold B at *; rw [this]; exact hp
   exact e.add ((B1 (by decide)).mono (by omega))
  refine (B.le h1 ?_).mono (by omega)
  have h2 := kAz_fl p _ h0
  have h3 : az (az p + 1) = az p + 1 := by have := az_nonneg p; generalize az p = t at *; unfold az; rw [if_neg (by omega)]
  omega
 have b1 := up _ bp
 have b2 : B 62 (wv a x % wv b y) := by
  refine (B.le bq ?_).mono (by omega)
  have h2 := Int.emod_nonneg (wv a x) h0
  have h3 := Int.emod_lt (wv a x) h0
  unfold az; split <;> split <;> omega
 have b3 : B 62 (fl (wv a x) (wv b y)) := by
  unfold fl; split
  ·have e : -wv a x / -wv b y = -(-wv a x / wv b y) := Int.ediv_neg _ _
   rw [e]; exact (up _ bp.neg).neg
  ·exact b1
 have M1 := kMulL _ (b3.mono (show 62 ≤ 1000 by omega)) b y hy ny
 have b4 := b3.mul bq
 have S1 := kSubR a x hx nx _ (b4.mono (show 62 + 60 ≤ 1000 by omega))
 have b5 : B 200 (wv a x - fl (wv a x) (wv b y) * wv b y) := ((bp.mono (show 60 ≤ 122 by omega)).sub b4).mono (by omega)
 have M2 := kMulL _ (b1.mono (show 62 ≤ 1000 by omega)) b y hy ny
 have b6 := b1.mul bq
 have A1 := kAddB _ _ (b6.mono (show 62 + 60 ≤ 1000 by omega)) (b2.mono (show 62 ≤ 1000 by omega))
 have b7 : B 1000 (wv a x / wv b y * wv b y + wv a x % wv b y) := (b6.add (b2.mono (show 62 ≤ 62 + 60 by omega))).mono (by omega)
 have C1 := kCmpL _ b7 a x hx nx
 have Sr := kSign _ (b2.mono (show 62 ≤ 1000 by omega))
 have e1 : wv a x / wv b y * wv b y + wv a x % wv b y - wv a x = 0 := by
  have := Int.mul_ediv_add_emod (wv a x) (wv b y)
  rw [Int.mul_comm] at this; omega
 have r0 := Int.emod_nonneg (wv a x) h0
 have r1 := Int.emod_lt (wv a x) h0
 refine Ev.step (fun k => by rw [gudgeonlaw02_WholeBack.j1]) (evN (by decide) ?_)
 refine evC Sb ?_
 by_cases hn : wv b y < 0
 ·have C2 := kCmpB _ _ (b2.mono (show 62 ≤ 1000 by omega)) (bq.neg.mono (show 60 ≤ 1000 by omega))
  have Nr := kNeg _ (b5.mono (show 200 ≤ 1000 by omega))
  have Ss := kSign _ (b5.neg.mono (show 200 ≤ 1000 by omega))
  have C3 := kCmpB _ _ (b5.neg.mono (show 200 ≤ 1000 by omega)) (bq.neg.mono (show 60 ≤ 1000 by omega))
  have e2 : -(wv a x - fl (wv a x) (wv b y) * wv b y) = (-wv a x) % (-wv b y) := by
   have := Int.mul_ediv_add_emod (-wv a x) (-wv b y)
   unfold fl; rw [if_pos hn]
   rw [Int.neg_mul, Int.mul_comm] at this
   omega
  have g0 := Int.emod_nonneg (-wv a x) (show -wv b y ≠ 0 by omega)
  have g1 := Int.emod_lt_of_pos (-wv a x) (show 0 < -wv b y by omega)
  refine evP ((sg_neg _).2 hn) (evC Nb (Ev.bind M1 (Ev.bind S1 (evC Sb (evP ((sg_neg _).2 hn) (evC Nr (Ev.bind M2 (Ev.bind A1 (Ev.bind C1 ?_)))))))))
  refine evP (kSg0 e1) (evC Sr (evP (kSgN r0) (Ev.bind C2 (evP ((sg_neg _).2 (by omega)) (evC Ss (evP (kSgN (by omega)) (Ev.bind C3 (evR ?_))))))))
  exact decide_eq_true ((sg_neg _).2 (by omega))
 ·have C2 := kCmpL _ (b2.mono (show 62 ≤ 1000 by omega)) b y hy ny
  have Ss := kSign _ (b5.mono (show 200 ≤ 1000 by omega))
  have C3 := kCmpL _ (b5.mono (show 200 ≤ 1000 by omega)) b y hy ny
  have e2 : wv a x - fl (wv a x) (wv b y) * wv b y = wv a x % wv b y := by
   have := Int.mul_ediv_add_emod (wv a x) (wv b y)
   unfold fl; rw [if_neg hn]
   rw [Int.mul_comm] at this
   omega
  refine evN (fun z => hn ((sg_neg _).1 z)) (Ev.bind M1 (Ev.bind S1 (evC Sb (evN (fun z => hn ((sg_neg _).1 z)) (Ev.bind M2 (Ev.bind A1 (Ev.bind C1 ?_)))))))
  refine evP (kSg0 e1) (evC Sr (evP (kSgN r0) (Ev.bind C2 (evP ((sg_neg _).2 (by omega)) (evC Ss (evP (kSgN (by omega)) (Ev.bind C3 (evR ?_))))))))
  exact decide_eq_true ((sg_neg _).2 (by omega))
end Go.Proofs.YthnfmmaolkenkaaDoor.S
/- The law WholeBack of package gudgeonlaw02 returns true and leaves its arguments as they were, for every input that can be read as data; the library's tables that the row lists read as the program's text lays them, to which the card ties them. -/
namespace Go.Proofs.YthnfmmaolkenkaaDoor.wholeBack
open Go.ChangeShapes Go.WideShapes Go.ChangeAt Go.RowKit
open Go.ChangeMaps (open_string shut_string)
set_option linter.unusedVariables false
theorem own : ownKnob Tryd.prog.godebug = none := by kernel_rfl
theorem laidOut : laidOutB Tryd.prog = true := by kernel_rfl
def IsRow (k : IntKind) (w : World) (a : Option Addr) (len cap : Nat) (zs : List Int) : Prop :=
  (a = none ∧ len = 0 ∧ cap = 0 ∧ zs = []) ∨
  ∃ x, a = some x ∧ len ≤ cap ∧ cap ≤ maxLen ∧ zs.length = cap ∧ (∀ i, i < zs.length → w.cell? (x.add i) = some (.int k (zs.getD i 0))) ∧ ∀ n ∈ zs, (Lit.int k n).wf = true
noncomputable def laidWorld (os : Os) : World :=
  let w0 := World.holding Tryd.prog os ⟨#[], #[], []⟩
  let put (h : Array Obj) (g : Nat) (cs : Array Value) : Array Obj := h.modify g fun
    | .cells _ t frozen => .cells cs t frozen
    | o => o
  let h0 := w0.heap
  let h1 := put h0 1 #[.int .u8 128, .int .u8 191, .int .u8 160, .int .u8 191, .int .u8 128, .int .u8 159, .int .u8 144, .int .u8 191, .int .u8 128, .int .u8 143, .int .u8 0, .int .u8 0, .int .u8 0, .int .u8 0, .int .u8 0, .int .u8 0, .int .u8 0, .int .u8 0, .int .u8 0, .int .u8 0, .int .u8 0, .int .u8 0, .int .u8 0, .int .u8 0, .int .u8 0, .int .u8 0, .int .u8 0, .int .u8 0, .int .u8 0, .int .u8 0, .int .u8 0, .int .u8 0]
  let h2 := put h1 0 ((Go.Pinned.utf8FirstZ.map fun (n : Nat) => Value.int .u8 (n : Int)).toArray)
  { w0 with heap := h2 }
theorem laidWorld_met (os : Os) (args : Array Value) : laidMetH Tryd.prog Rows.wholeBackRow.laid ((laidWorld os).forCall (fun _ _ => 0) ⟨#[], args, []⟩).memory :=
  (LaidIn.of_run (P := Tryd.prog) (l := Rows.wholeBackRow.laid) [1, 0] 8 (by kernel_rfl) (by kernel_rfl) (by kernel_rfl) (by kernel_rfl)).met
set_option maxRecDepth 100000 in
theorem lifted (os : Os) (started : os.Started) (H : Type) (enc : TypeId × Value → H) :
    ReturnsInHanded {} Tryd.checked os 5 .any (fun w args => (Rows.wholeBackSpec.pre enc Tryd.prog Tryd.f5 Rows.wholeBackRow.domain false w args ∧ laidMetH Tryd.prog Rows.wholeBackRow.laid w) ∧ sizedMet enc Tryd.prog Tryd.f5 (OpenSpec.ofChange Rows.wholeBackSpec) false w args) (Rows.wholeBackSpec.post enc Tryd.prog Tryd.f5 false true false false) := by
  refine returnsInHanded_of_change_and (C := Tryd.checked) (X := fun w _ => laidMetH Tryd.prog Rows.wholeBackRow.laid w) (fun _ _ _ hh h => h.of_heap hh) own started (by kernel_rfl) Tryd.func5
    (ChangeSpec.witness_at (enc := enc) (C := Tryd.checked) (os := os) (X := fun w _ => laidMetH Tryd.prog Rows.wholeBackRow.laid w) false (laidWorld os) #[.agg #[.bool false, .slice none 0 0], .agg #[.bool false, .slice none 0 0]] 8 rfl (by kernel_rfl) (by kernel_rfl) (by kernel_rfl) (by kernel_rfl) (by kernel_rfl) (laidWorld_met os _)) ?_
  intro W base args ds gs before hval0 hW hcnd hsz0 hL _
  have hsz : (DataW.weightsEach Tryd.prog (Tryd.f5.params.toList ++ Rows.wholeBackSpec.plain.varTypes Tryd.prog) (ds ++ gs)).all (· ≤ reachBytes) = true := hsz0
  have hval : ∀ (j : Nat) t v, Tryd.f5.params[j]? = some t → args[j]? = some v → Value.okWide Tryd.prog W .any base t v := hval0
  have hW' := hW
  obtain ⟨p, q, hA0, hV, rfl, hfz, hnd⟩ := hW
  have hA : DataW.TrodAll enc Tryd.prog W 0 (fun _ => true) true Tryd.f5.params.toList args.toList ds p := hA0
  rw [Tryd.params5] at hA hval hsz
  obtain ⟨v0, vs0, d0, ds0, p0, q0, hargs, rfl, rfl, h0, r0⟩ := trodAll_cons hA
  obtain ⟨v1, vs1, d1, ds1, p1, q1, rfl, rfl, rfl, h1, r1⟩ := trodAll_cons r0
  obtain ⟨rfl, rfl, rfl⟩ := trodAll_nil r1
  obtain rfl : args = #[v0, v1] := by cases args; simp_all
  obtain ⟨rfl, rfl⟩ := trodVars_none hV
  have k0 := h0
  have lt0 : ∀ x ∈ p0, x.block < W.heap.size := by obtain ⟨m, hm⟩ := k0; exact DataW.trod_lt m _ _ _ hm
  obtain ⟨u0a, u0b, y0a, y0b, n0, rfl, rfl, rfl, ga0, gb0⟩ := Go.Joins.open_agg2 Tryd.underlying24 (by kernel_rfl) (by kernel_rfl) (hval 0 24 v0 rfl rfl) h0
  obtain ⟨b0, e0, _⟩ := DataW.trod_bool Tryd.underlying4 ga0
  simp only [List.cons.injEq, and_true] at e0
  subst e0
  obtain ⟨A0, len0, cap0, zs0, rfl, w0⟩ : ∃ A n c zs, u0b = .slice A n c ∧ IsRow .u32 W A n c zs := by
    rcases open_ints Tryd.underlying22 Tryd.underlying51 (by kernel_rfl) gb0 with ⟨hcs, _⟩ | ⟨x, l, c, zs, hcs, _, hl, hm, hz, _, hcell, hwz⟩
    · simp at hcs; exact ⟨none, 0, 0, [], hcs, .inl ⟨rfl, rfl, rfl, rfl⟩⟩
    · simp at hcs; exact ⟨some x, l, c, zs, hcs, .inr ⟨_, rfl, hl, hm, by simpa using hz, hcell, hwz⟩⟩
  obtain ⟨l0, rfl, hr0, hm0, hw0, hc0⟩ := Go.Proofs.YthnfmmaolkenkaaDoorW.PrintWords.ReadsInt.ofRowC w0
  have k1 := h1
  have lt1 : ∀ x ∈ p1, x.block < W.heap.size := by obtain ⟨m, hm⟩ := k1; exact DataW.trod_lt m _ _ _ hm
  obtain ⟨u1a, u1b, y1a, y1b, n1, rfl, rfl, rfl, ga1, gb1⟩ := Go.Joins.open_agg2 Tryd.underlying24 (by kernel_rfl) (by kernel_rfl) (hval 1 24 v1 rfl rfl) h1
  obtain ⟨b1, e1, _⟩ := DataW.trod_bool Tryd.underlying4 ga1
  simp only [List.cons.injEq, and_true] at e1
  subst e1
  obtain ⟨A1, len1, cap1, zs1, rfl, w1⟩ : ∃ A n c zs, u1b = .slice A n c ∧ IsRow .u32 W A n c zs := by
    rcases open_ints Tryd.underlying22 Tryd.underlying51 (by kernel_rfl) gb1 with ⟨hcs, _⟩ | ⟨x, l, c, zs, hcs, _, hl, hm, hz, _, hcell, hwz⟩
    · simp at hcs; exact ⟨none, 0, 0, [], hcs, .inl ⟨rfl, rfl, rfl, rfl⟩⟩
    · simp at hcs; exact ⟨some x, l, c, zs, hcs, .inr ⟨_, rfl, hl, hm, by simpa using hz, hcell, hwz⟩⟩
  obtain ⟨l1, rfl, hr1, hm1, hw1, hc1⟩ := Go.Proofs.YthnfmmaolkenkaaDoorW.PrintWords.ReadsInt.ofRowC w1
  clear hA0 hval0 hsz0 hsz
  obtain ⟨k, hk⟩ := Go.Proofs.YthnfmmaolkenkaaDoor.S.WholeBack b0 l0 (Go.Proofs.YthnfmmaolkenkaaDoor.S.lim_wf hw0) b1 l1 (Go.Proofs.YthnfmmaolkenkaaDoor.S.lim_wf hw1)
  refine (PA.gudgeonlaw02_WholeBack.calls k b0 _ _ l0 b1 _ _ l1 true W (Go.Proofs.YthnfmmaolkenkaaDoorW.PrintWords.Kd.C_of_reads (d := (0 : Int)) (h1 := fun _ => rfl) hr0) hc0 (Go.Proofs.YthnfmmaolkenkaaDoorW.PrintWords.Kd.C_of_reads (d := (0 : Int)) (h1 := fun _ => rfl) hr1) hc1 hk).mono fun e W' ⟨he, bel⟩ => ?_
  subst he
  exact ⟨_, rfl, _, _, _, [], _, [], hW', trodAll_mk1 (shut_bool Tryd.underlying4 _), (trodAll_cons_mk (Below.trod laidOut (by kernel_rfl) (of_decide_eq_true (by kernel_rfl)) k0 bel lt0) (trodAll_cons_mk (Below.trod laidOut (by kernel_rfl) (of_decide_eq_true (by kernel_rfl)) k1 bel lt1) trodAll_mk0)), rfl, bel.frame _, fun h => by cases h⟩
theorem over : Rows.wholeBackRow.holds Tryd.pinned (OpenSpec.ofChange Rows.wholeBackSpec) :=
  OpenClaim.holds_of_wide 5 Tryd.f5 rfl rfl rfl rfl rfl rfl rfl ⟨rfl, rfl, rfl, rfl, rfl⟩ rfl rfl rfl rfl rfl (by kernel_rfl) Tryd.func5 (by kernel_rfl)
    (of_decide_eq_true (by kernel_rfl)) (by unfold Func.isWrapper; first | (rw [if_pos (by decide +kernel)]; kernel_rfl) | (rw [if_neg (by decide +kernel)]; exact ⟨rfl, rfl⟩))
    (fun os started H enc _ => lifted os started H enc)
theorem carded : Rows.WholeBackCardSaid :=
  Claim7.holds_tied_plain_at .later [] [.data, .pinned] true (true, "ba68cb9603c955314ec3c17bd3894557d5c64f67e14ac306d1ac9aa1e21bbfb4") false
    over (fun _ h => by cases h) (by kernel_rfl) (fun _ h => by cases h) wholeBack_row_tie rfl ⟨rfl, rfl⟩ (by kernel_rfl) rfl
    (fun f fn hf hfn => by
      obtain rfl : f = 5 := Option.some.inj ((show Tryd.prog.funcNamed "gudgeon/gudgeonlaw02.WholeBack" = some 5 by kernel_rfl).symm.trans hf) |>.symm
      obtain rfl : fn = Tryd.f5 := (Option.some.inj (Tryd.func5.symm.trans hfn)).symm
      exact ⟨by kernel_rfl, fun j t ht => by
        rw [Tryd.params5] at ht
        have hm := Array.mem_of_getElem? ht
        simp only [List.mem_toArray, List.mem_cons, List.not_mem_nil, or_false] at hm
        rcases hm with rfl | rfl
        · exact (show Tryd.prog.wantsStandIn 24 = false by kernel_rfl)
        · exact (show Tryd.prog.wantsStandIn 24 = false by kernel_rfl)⟩)
    (by kernel_rfl)
end Go.Proofs.YthnfmmaolkenkaaDoor.wholeBack
namespace Go.Proofs.YthnfmmaolkenkaaDoor
/-- The card, under a short name, for the claim. -/
theorem wholeBack_card : Rows.WholeBackCardSaid := wholeBack.carded
end Go.Proofs.YthnfmmaolkenkaaDoor
