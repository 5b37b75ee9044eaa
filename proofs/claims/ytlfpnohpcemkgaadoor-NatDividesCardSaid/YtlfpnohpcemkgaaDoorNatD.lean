import Derived.Test.YtlfpnohpcemkgaaDoorNatC
import Derived.Test.YtlfpnohpcemkgaaDoorHDigit
/- Knuth's division by limbs: what take, give, digit and DivMod compute; the greatest common divisor. -/
namespace Go.Proofs.YtlfpnohpcemkgaaDoor.V
set_option linter.unusedVariables false
set_option linter.unusedSimpArgs false
open Go.RowKit Go.Proofs.YtlfpnohpcemkgaaDoor.PA Go.Proofs.YtlfpnohpcemkgaaDoor.H Go.Proofs.YtlfpnohpcemkgaaDoorW.PrintWords Go.Proofs.YtlfpnohpcemkgaaDoorW.PrintLast Go.Proofs.YtlfpnohpcemkgaaDoorW.PrintMore

theorem and_low {x : Int} (h0 : 0 ≤ x) (h1 : x < 18446744073709551616) : Go.bits .and .u64 x 4294967295 = x % 4294967296 :=
  bits_mask .u64 64 (by decide) wraps_u64 32 (by decide) x h0 (by omega)
theorem step_take {U V0 Pi q v vp c b cl ch b' r u : Int} (h : U = V0 - q * vp + Pi * (c + b)) (e1 : cl + 4294967296 * ch = c + q * v) (e2 : r - 4294967296 * b' = u - cl - b) : U + Pi * (r - u) = V0 - q * (vp + Pi * v) + (4294967296 * Pi) * (ch + b') := by
  subst h
  grind
theorem take_l0 (u0 v : List Int) (q : Int) (hv : Lim v) (hq : 0 ≤ q ∧ q < 4294967296) (hnv : v.length < 1000000000) (hu0 : Lim u0) (hl0 : u0.length = v.length + 1) (d : Nat) : ∀ (i : Nat) (u : List Int) (c b : Int), i + d = v.length → u.length = v.length + 1 → Lim u → 0 ≤ c → c < 4294967296 → 0 ≤ b → b ≤ 1 → val u = val u0 - q * val (v.take i) + pw i * (c + b) →
    ∃ u', Ev (fun k => nat_take.l0 k u v q c b (v.length : Int) (i : Int)) (decide (val u0 < q * val v), u') ∧ u'.length = v.length + 1 ∧ Lim u' ∧ val u' = val u0 - q * val v + (if val u0 < q * val v then pw (v.length + 1) else 0) := by
  induction d with
  | zero =>
    intro i u c b hi hl hL c0 c1 b0 b1 he
    obtain rfl : i = v.length := by omega
    have hp : v.length < u.length := by omega
    have gu := hL.get _ hp
    rw [List.take_of_length_le (by omega)] at he
    have hset : (u.set v.length ((u[v.length] - c - b) % 4294967296)).length = v.length + 1 := by simpa using hl
    have hLs : Lim (u.set v.length ((u[v.length] - c - b) % 4294967296)) := hL.set _ (by omega) (by omega)
    have hval : val (u.set v.length ((u[v.length] - c - b) % 4294967296)) = val u0 - q * val v - pw (v.length + 1) * ((u[v.length] - c - b) / 4294967296) := by
      rw [val_set _ _ _ hp, he, pw_succ]
      have e := Int.mul_ediv_add_emod (u[v.length] - c - b) 4294967296
      generalize (u[v.length] - c - b) / 4294967296 = f at *
      generalize (u[v.length] - c - b) % 4294967296 = g at *
      generalize u[v.length] = z at *
      grind
    have h1 := val_lt hLs
    have h2 := val_nonneg hLs
    have h3 := val_nonneg hu0
    have h4 := val_lt hu0
    rw [hset] at h1
    have hneg : (u[v.length] - c - b < 0) ↔ val u0 < q * val v := by
      by_cases hn : u[v.length] - c - b < 0
      · have : (u[v.length] - c - b) / 4294967296 = -1 := by omega
        rw [this] at hval
        constructor <;> intro <;> omega
      · have : (u[v.length] - c - b) / 4294967296 = 0 := by omega
        rw [this] at hval
        constructor <;> intro <;> omega
    have e1 : IntKind.u64.wrap ((IntKind.u64.wrap (u[v.length] - c)) - b) = (u[v.length] - c - b) % 18446744073709551616 := by rw [u64e, u64e]; omega
    refine ⟨u.set v.length ((u[v.length] - c - b) % 4294967296), Ev.step (f := fun _ => some _) (fun k => ?_) (Ev.now _), hset, hLs, ?_⟩
    · simp only [nat_take.l0]
      rw [if_neg (by omega), if_pos (by omega), if_pos (by omega), rd_get _ _ hp, u64 (x := u[v.length]) gu.1 (by omega), e1, Int.toNat_natCast]
      congr 2
      · rw [Bool.eq_iff_iff]
        simp only [beq_iff_eq, decide_eq_true_eq]
        rw [← hneg]
        constructor <;> intro <;> omega
      · congr 1; omega
    · rw [hval]
      by_cases hn : u[v.length] - c - b < 0
      · rw [if_pos (hneg.1 hn), show (u[v.length] - c - b) / 4294967296 = -1 by omega]; omega
      · rw [if_neg (fun h => hn (hneg.2 h)), show (u[v.length] - c - b) / 4294967296 = 0 by omega]; omega
  | succ d ih =>
    intro i u c b hi hl hL c0 c1 b0 b1 he
    have hiv : i < v.length := by omega
    have hiu : i < u.length := by omega
    have gv := hv.get i hiv
    have gu := hL.get i hiu
    have hm := mul_bd32 hq gv
    have e1 : IntKind.u64.wrap (c + IntKind.u64.wrap (q * IntKind.u64.wrap v[i])) = c + q * v[i] := by
      rw [u64 (x := v[i]) (by omega) (by omega), u64 (x := q * v[i]) (by omega) (by omega), u64 (by omega) (by omega)]
    have e2 : IntKind.u64.wrap ((IntKind.u64.wrap (u[i] - (c + q * v[i]) % 4294967296)) - b) = (u[i] - (c + q * v[i]) % 4294967296 - b) % 18446744073709551616 := by rw [u64e, u64e]; omega
    have hstep := step_take (ch := (c + q * v[i]) / 4294967296) (b' := (u[i] - (c + q * v[i]) % 4294967296 - b) % 18446744073709551616 / 9223372036854775808) (r := (u[i] - (c + q * v[i]) % 4294967296 - b) % 18446744073709551616 % 4294967296) (u := u[i]) (cl := (c + q * v[i]) % 4294967296) (v := v[i]) he (by omega) (by omega)
    obtain ⟨u', h1, h2⟩ := ih (i + 1) (u.set i ((u[i] - (c + q * v[i]) % 4294967296 - b) % 18446744073709551616 % 4294967296)) ((c + q * v[i]) / 4294967296) ((u[i] - (c + q * v[i]) % 4294967296 - b) % 18446744073709551616 / 9223372036854775808) (by omega) (by simpa using hl) (hL.set _ (by omega) (by omega)) (by omega) (by omega) (by omega) (by omega) (by
      rw [val_set _ _ _ hiu, val_take_succ _ _ hiv, pw_succ]
      exact hstep)
    refine ⟨u', Ev.step (fun k => ?_) h1, h2⟩
    simp only [nat_take.l0]
    rw [if_pos (by omega), if_pos (by omega), if_pos (by omega), if_pos (by omega), rd_get _ _ hiv, rd_get _ _ hiu, e1, and_low (by omega) (by omega), u64 (x := u[i]) (by omega) (by omega), e2, w64 (by omega) (by omega), Int.toNat_natCast]
    rfl
theorem take_ev (u v : List Int) (q : Int) (hu : Lim u) (hv : Lim v) (hq : 0 ≤ q ∧ q < 4294967296) (hnv : v.length < 1000000000) (hl : u.length = v.length + 1) :
    ∃ u', Ev (fun k => nat_take.f k u v q) (decide (val u < q * val v), u') ∧ u'.length = v.length + 1 ∧ Lim u' ∧ val u' = val u - q * val v + (if val u < q * val v then pw (v.length + 1) else 0) := by
  obtain ⟨u', h1, h2⟩ := take_l0 u v q hv hq hnv hu hl v.length 0 u 0 0 (by omega) hl hu (by omega) (by omega) (by omega) (by omega) (by simp [val])
  exact ⟨u', Ev.congr (fun k => rfl) h1, h2⟩
theorem step_give {U V0 Pi v vp c ch r u : Int} (h : U + Pi * c = V0 + vp) (e : r + 4294967296 * ch = c + (u + v)) : U + Pi * (r - u) + (4294967296 * Pi) * ch = V0 + (vp + Pi * v) := by grind
theorem give_l0 (u0 v : List Int) (hv : Lim v) (hnv : v.length < 1000000000) (hbig : pw (v.length + 1) ≤ val u0 + val v) (hu0 : val u0 < pw (v.length + 1)) (d : Nat) : ∀ (i : Nat) (u : List Int) (c : Int), i + d = v.length → u.length = v.length + 1 → Lim u → 0 ≤ c → c ≤ 1 → val u + pw i * c = val u0 + val (v.take i) →
    ∃ u', Ev (fun k => nat_give.l0 k u v c (v.length : Int) (i : Int)) u' ∧ u'.length = v.length + 1 ∧ Lim u' ∧ val u' = val u0 + val v - pw (v.length + 1) := by
  induction d with
  | zero =>
    intro i u c hi hl hL c0 c1 he
    obtain rfl : i = v.length := by omega
    have hp : v.length < u.length := by omega
    have gu := hL.get _ hp
    rw [List.take_of_length_le (by omega)] at he
    have hset : (u.set v.length ((u[v.length] + c) % 4294967296)).length = v.length + 1 := by simpa using hl
    have hLs : Lim (u.set v.length ((u[v.length] + c) % 4294967296)) := hL.set _ (by omega) (by omega)
    have hval : val (u.set v.length ((u[v.length] + c) % 4294967296)) = val u0 + val v - pw (v.length + 1) * ((u[v.length] + c) / 4294967296) := by
      rw [val_set _ _ _ hp, pw_succ]
      have e := Int.mul_ediv_add_emod (u[v.length] + c) 4294967296
      generalize (u[v.length] + c) / 4294967296 = f at *
      generalize (u[v.length] + c) % 4294967296 = g at *
      generalize u[v.length] = z at *
      grind
    have h1 := val_lt hLs
    have h2 := val_lt hv
    rw [hset] at h1
    have h3 := pw_succ v.length
    have h4 := pw_pos v.length
    have hone : (u[v.length] + c) / 4294967296 = 1 := by
      have : (u[v.length] + c) / 4294967296 = 0 ∨ (u[v.length] + c) / 4294967296 = 1 := by omega
      rcases this with h0 | h0
      · rw [h0] at hval; omega
      · exact h0
    refine ⟨u.set v.length ((u[v.length] + c) % 4294967296), Ev.step (f := fun _ => some _) (fun k => ?_) (Ev.now _), hset, hLs, by rw [hval, hone]; omega⟩
    simp only [nat_give.l0]
    rw [if_neg (by omega), if_pos (by omega), if_pos (by omega), rd_get _ _ hp, Int.toNat_natCast]
    congr 2
    omega
  | succ d ih =>
    intro i u c hi hl hL c0 c1 he
    have hiv : i < v.length := by omega
    have hiu : i < u.length := by omega
    have gv := hv.get i hiv
    have gu := hL.get i hiu
    obtain ⟨u', h1, h2⟩ := ih (i + 1) (u.set i ((c + (u[i] + v[i])) % 4294967296)) ((c + (u[i] + v[i])) / 4294967296) (by omega) (by simpa using hl) (hL.set _ (by omega) (by omega)) (by omega) (by omega) (by
      rw [val_set _ _ _ hiu, val_take_succ _ _ hiv, pw_succ]
      exact step_give he (by omega))
    refine ⟨u', Ev.step (fun k => ?_) h1, h2⟩
    simp only [nat_give.l0]
    rw [if_pos (by omega), if_pos (by omega), if_pos (by omega), if_pos (by omega), rd_get _ _ hiv, rd_get _ _ hiu, u64 (x := u[i]) (by omega) (by omega), u64 (x := v[i]) (by omega) (by omega), u64 (x := u[i] + v[i]) (by omega) (by omega), u64 (by omega) (by omega), w64 (by omega) (by omega), Int.toNat_natCast]
    rfl
theorem give_ev (u v : List Int) (hu : Lim u) (hv : Lim v) (hnv : v.length < 1000000000) (hl : u.length = v.length + 1) (hbig : pw (v.length + 1) ≤ val u + val v) :
    ∃ u', Ev (fun k => nat_give.f k u v) u' ∧ u'.length = v.length + 1 ∧ Lim u' ∧ val u' = val u + val v - pw (v.length + 1) := by
  have h0 := val_lt hu
  rw [hl] at h0
  obtain ⟨u', h1, h2⟩ := give_l0 u v hv hnv hbig h0 v.length 0 u 0 (by omega) hl hu (by omega) (by omega) (by simp [val])
  exact ⟨u', Ev.congr (fun k => rfl) h1, h2⟩

/-! ### one limb of a quotient -/
theorem digit_j1 (u v : List Int) (q : Int) (hu : Lim u) (hv : Lim v) (hnv : v.length < 1000000000) (hl : u.length = v.length + 1) (hq : 0 ≤ q ∧ q < 4294967296) (hv0 : 0 < val v) (h1 : (q - 1) * val v ≤ val u) (h2 : val u < (q + 1) * val v) :
    ∃ u', Ev (fun k => nat_digit.j1 k u v q) (val u / val v, u') ∧ u'.length = v.length + 1 ∧ Lim u' ∧ val u' = val u % val v := by
  obtain ⟨u1, t1, t2, t3, t4⟩ := take_ev u v q hu hv hq hnv hl
  have e1 : (q - 1) * val v = q * val v - val v := by grind
  have e2 : (q + 1) * val v = q * val v + val v := by grind
  by_cases hneg : val u < q * val v
  · rw [if_pos hneg] at t4
    have hq1 : 1 ≤ q := by
      have h0 := val_nonneg hu
      by_cases hz : q = 0
      · subst hz; omega
      · omega
    obtain ⟨u2, g1, g2, g3, g4⟩ := give_ev u1 v t3 hv hnv t2 (by omega)
    have hd := div_unique hv0 (a := val u) (q := q - 1) (r := val u2) (by rw [g4, t4]; omega) (val_nonneg g3) (by omega)
    refine ⟨u2, ?_, g2, g3, hd.2.symm⟩
    refine Ev.step (fun k => by simp only [nat_digit.j1]; rfl) (Ev.bind t1 ?_)
    simp only [decide_eq_true hneg, if_true]
    refine Ev.congr (fun k => rfl) (Ev.bind g1 ?_)
    rw [hd.1, u64 (by omega) (by omega), Int.emod_eq_of_lt (by omega) (by omega)]
    exact Ev.now _
  · rw [if_neg hneg] at t4
    have hd := div_unique hv0 (a := val u) (q := q) (r := val u1) (by rw [t4]; omega) (val_nonneg t3) (by omega)
    refine ⟨u1, ?_, t2, t3, hd.2.symm⟩
    refine Ev.step (fun k => by simp only [nat_digit.j1]; rfl) (Ev.bind t1 ?_)
    rw [decide_eq_false hneg]
    simp only [Bool.false_eq_true, if_false]
    rw [hd.1, Int.emod_eq_of_lt (by omega) (by omega)]
    exact Ev.now _
/-- The truncated quotient is no less than the quotient. -/
theorem est_le {Q T Vt P U V : Int} (hP : 0 < P) (hQ : 0 ≤ Q) (h1 : Q * V ≤ U) (h2 : U < (T + 1) * P) (h3 : Vt * P ≤ V) : Q * Vt ≤ T := by
  have a1 : Q * (Vt * P) ≤ Q * V := Int.mul_le_mul_of_nonneg_left h3 hQ
  have a2 : (Q * Vt) * P < (T + 1) * P := by rw [Int.mul_assoc]; omega
  have := Int.lt_of_mul_lt_mul_right a2 (Int.le_of_lt hP)
  omega
/-- A quotient that fits three limbs by two is at most one too great. -/
theorem est_ge {q T V2 P U V : Int} (hP : 0 < P) (hq : 0 ≤ q) (hqV : q - 1 ≤ V2) (h1 : q * V2 ≤ T) (h2 : T * P ≤ U) (h3 : V ≤ (V2 + 1) * P) (hV : 0 ≤ V) (hU : 0 ≤ U) : (q - 1) * V ≤ U := by
  by_cases hz : q = 0
  · subst hz
    have : (0 - 1) * V = -V := by grind
    omega
  · have a1 : (q - 1) * V ≤ (q - 1) * ((V2 + 1) * P) := Int.mul_le_mul_of_nonneg_left h3 (by omega)
    have a2 : (q - 1) * (V2 + 1) ≤ T := by
      have : (q - 1) * (V2 + 1) = q * V2 - V2 + q - 1 := by grind
      omega
    have a3 : (q - 1) * (V2 + 1) * P ≤ T * P := Int.mul_le_mul_of_nonneg_right a2 (Int.le_of_lt hP)
    rw [Int.mul_assoc] at a3
    omega
set_option maxHeartbeats 2000000 in
theorem digit_l0 (u v : List Int) (hu : Lim u) (hv : Lim v) (hnv : v.length < 1000000000) (m : Nat) (hm : v.length = m + 2) (hl : u.length = m + 3) (top : Int) (htop : top = u[m + 2] * 4294967296 + u[m + 1]) (hvt : 2147483648 ≤ v[m + 1]) (hlt : val u < 4294967296 * val v) (hQ : 0 ≤ val u / val v) (d : Nat) : ∀ (q r : Int), q.toNat < d → 0 ≤ q → q < 4294967296 → r = top - q * v[m + 1] → 0 ≤ r → r < 8589934592 → val u / val v ≤ q →
    ∃ u', Ev (fun k => nat_digit.l0 k u v (v.length : Int) q r) (val u / val v, u') ∧ u'.length = v.length + 1 ∧ Lim u' ∧ val u' = val u % val v := by
  have gv1 := hv.get (m + 1) (by omega)
  have gv2 := hv.get m (by omega)
  have gu0 := hu.get m (by omega)
  have gu1 := hu.get (m + 1) (by omega)
  have gu2 := hu.get (m + 2) (by omega)
  have dv : val v = val (v.take m) + pw m * (v[m] + 4294967296 * v[m + 1]) := by
    rw [val_take_drop v m (by omega), val_drop_cons v m (by omega), val_drop_cons v (m + 1) (by omega), List.drop_eq_nil_of_le (by omega)]
    simp [val]
  have du : val u = val (u.take m) + pw m * (u[m] + 4294967296 * (u[m + 1] + 4294967296 * u[m + 2])) := by
    rw [val_take_drop u m (by omega), val_drop_cons u m (by omega), val_drop_cons u (m + 1) (by omega), val_drop_cons u (m + 2) (by omega), List.drop_eq_nil_of_le (by omega)]
    simp [val]
  have lv0 := val_nonneg (hv.take m)
  have lv1 := val_lt (hv.take m)
  have lu0 := val_nonneg (hu.take m)
  have lu1 := val_lt (hu.take m)
  rw [List.length_take, Nat.min_eq_left (by omega)] at lv1 lu1
  have hP := pw_pos m
  have hv0 : 0 < val v := by
    have : pw m * 1 ≤ pw m * (v[m] + 4294967296 * v[m + 1]) := Int.mul_le_mul_of_nonneg_left (by omega) (Int.le_of_lt hP)
    omega
  -- the three highest limbs, and the two of the divisor
  have hU1 : val u < ((top * 4294967296 + u[m]) + 1) * pw m := by
    have e : ((top * 4294967296 + u[m]) + 1) * pw m = pw m * (u[m] + 4294967296 * (u[m + 1] + 4294967296 * u[m + 2])) + pw m := by rw [htop]; grind
    omega
  have hU2 : (top * 4294967296 + u[m]) * pw m ≤ val u := by
    have e : (top * 4294967296 + u[m]) * pw m = pw m * (u[m] + 4294967296 * (u[m + 1] + 4294967296 * u[m + 2])) := by rw [htop]; grind
    omega
  have hV1 : (v[m + 1] * 4294967296 + v[m]) * pw m ≤ val v := by
    have e : (v[m + 1] * 4294967296 + v[m]) * pw m = pw m * (v[m] + 4294967296 * v[m + 1]) := by grind
    omega
  have hV2 : val v ≤ ((v[m + 1] * 4294967296 + v[m]) + 1) * pw m := by
    have e : ((v[m + 1] * 4294967296 + v[m]) + 1) * pw m = pw m * (v[m] + 4294967296 * v[m + 1]) + pw m := by grind
    omega
  have hQV : (val u / val v) * val v ≤ val u := Int.ediv_mul_le _ (by omega)
  have hUQ : val u < (val u / val v + 1) * val v := Int.lt_ediv_add_one_mul_self _ hv0
  have hu0 := val_nonneg hu
  induction d with
  | zero => intro q r hd; omega
  | succ d ih =>
    intro q r hd q0 q1 hr r0 r1 hq
    have hm2 := mul_bd32 ⟨q0, q1⟩ gv2
    -- the loop ends here
    have hend : Aside0 (q * v[m] ≤ r * 4294967296 + u[m] → ∃ u', Ev (fun k => nat_digit.j1 k u v q) (val u / val v, u') ∧ u'.length = v.length + 1 ∧ Lim u' ∧ val u' = val u % val v) := by
      refine ⟨fun hfit => ?_⟩
      refine digit_j1 u v q hu hv hnv (by omega) ⟨q0, q1⟩ hv0 ?_ ?_
      · refine est_ge hP q0 (by omega) ?_ hU2 hV2 (by omega) hu0
        have : q * (v[m + 1] * 4294967296 + v[m]) = (top - r) * 4294967296 + q * v[m] := by rw [hr]; grind
        omega
      · have : (val u / val v + 1) * val v ≤ (q + 1) * val v := Int.mul_le_mul_of_nonneg_right (by omega) (by omega)
        omega
    by_cases hr32 : r < 4294967296
    · by_cases hbig : q * v[m] > r * 4294967296 + u[m]
      · -- one less
        have hq1 : 1 ≤ q := by
          by_cases hz : q = 0
          · subst hz; omega
          · omega
        have hQq : val u / val v ≤ q - 1 := by
          by_cases hz : val u / val v ≤ q - 1
          · exact hz
          · have e : val u / val v = q := by omega
            have h := est_le hP hQ hQV hU1 hV1
            rw [e] at h
            have : q * (v[m + 1] * 4294967296 + v[m]) = (top - r) * 4294967296 + q * v[m] := by rw [hr]; grind
            omega
        obtain ⟨u', h1, h2⟩ := ih (q - 1) (r + v[m + 1]) (by omega) (by omega) (by omega) (by rw [hr]; grind) (by omega) (by omega) hQq
        refine ⟨u', Ev.step (fun k => ?_) h1, h2⟩
        simp only [nat_digit.l0]
        rw [if_pos hr32, w64 (x := (v.length : Int) - 2) (by omega) (by omega), w64 (x := (v.length : Int) - 1) (by omega) (by omega), show (v.length : Int) - 2 = (m : Int) by omega, show (v.length : Int) - 1 = ((m + 1 : Nat) : Int) by omega, if_pos (by omega), if_pos (by omega), if_pos (by omega), rd_get _ _ (show m < v.length by omega), rd_get _ _ (show m < u.length by omega), rd_get _ _ (show m + 1 < v.length by omega), u64 (x := v[m]) (by omega) (by omega), u64 (x := u[m]) (by omega) (by omega), u64 (x := v[m + 1]) (by omega) (by omega), u64 (x := q * v[m]) (by omega) (by omega), u64 (x := r * 4294967296) (by omega) (by omega), or_join ⟨r0, hr32⟩ gu0, if_pos hbig, if_pos (by omega), if_pos (by omega), u64 (by omega) (by omega), u64 (by omega) (by omega)]
      · obtain ⟨u', h1, h2⟩ := hend.out (by omega)
        refine ⟨u', Ev.step (fun k => ?_) h1, h2⟩
        simp only [nat_digit.l0]
        rw [if_pos hr32, w64 (x := (v.length : Int) - 2) (by omega) (by omega), show (v.length : Int) - 2 = (m : Int) by omega, if_pos (by omega), if_pos (by omega), if_pos (by omega), rd_get _ _ (show m < v.length by omega), rd_get _ _ (show m < u.length by omega), u64 (x := v[m]) (by omega) (by omega), u64 (x := u[m]) (by omega) (by omega), u64 (x := q * v[m]) (by omega) (by omega), u64 (x := r * 4294967296) (by omega) (by omega), or_join ⟨r0, hr32⟩ gu0, if_neg hbig]
    · obtain ⟨u', h1, h2⟩ := hend.out (by omega)
      refine ⟨u', Ev.step (fun k => ?_) h1, h2⟩
      simp only [nat_digit.l0]
      rw [if_neg hr32]
theorem mn_eq (a b : Int) : mn a b = min a b := by unfold mn; split <;> omega
set_option maxHeartbeats 2000000 in
theorem digit_ev (u v : List Int) (hu : Lim u) (hv : Lim v) (hnv : v.length < 1000000000) (h2 : 2 ≤ v.length) (hl : u.length = v.length + 1) (htop : 2147483648 ≤ v.getD (v.length - 1) 0) (hlt : val u < 4294967296 * val v) :
    ∃ u', Ev (fun k => nat_digit.f k u v) (val u / val v, u') ∧ u'.length = v.length + 1 ∧ Lim u' ∧ val u' = val u % val v := by
  obtain ⟨m, hm⟩ : ∃ m, v.length = m + 2 := ⟨v.length - 2, by omega⟩
  have gv1 := hv.get (m + 1) (by omega)
  have gu1 := hu.get (m + 1) (by omega)
  have gu2 := hu.get (m + 2) (by omega)
  rw [hm, show m + 2 - 1 = m + 1 by omega, getD_get _ _ (show m + 1 < v.length by omega)] at htop
  have hP := pw_pos (m + 1)
  have dv : val v = val (v.take (m + 1)) + pw (m + 1) * v[m + 1] := by
    rw [val_take_drop v (m + 1) (by omega), val_drop_cons v (m + 1) (by omega), List.drop_eq_nil_of_le (by omega)]
    simp [val]
  have du : val u = val (u.take (m + 1)) + pw (m + 1) * (u[m + 1] + 4294967296 * u[m + 2]) := by
    rw [val_take_drop u (m + 1) (by omega), val_drop_cons u (m + 1) (by omega), val_drop_cons u (m + 2) (by omega), List.drop_eq_nil_of_le (by omega)]
    simp [val]
  have lv0 := val_nonneg (hv.take (m + 1))
  have lv1 := val_lt (hv.take (m + 1))
  have lu0 := val_nonneg (hu.take (m + 1))
  have lu1 := val_lt (hu.take (m + 1))
  rw [List.length_take, Nat.min_eq_left (by omega)] at lv1 lu1
  have hv0 : 0 < val v := by
    have : pw (m + 1) * 1 ≤ pw (m + 1) * v[m + 1] := Int.mul_le_mul_of_nonneg_left (by omega) (Int.le_of_lt hP)
    omega
  have hQ : 0 ≤ val u / val v := Int.ediv_nonneg (val_nonneg hu) (by omega)
  obtain ⟨top, htp⟩ : ∃ t, t = u[m + 2] * 4294967296 + u[m + 1] := ⟨_, rfl⟩
  have htp0 : 0 ≤ top := by omega
  have htp1 : top < 18446744073709551616 := by omega
  have hQtop : (val u / val v) * v[m + 1] ≤ top := by
    refine est_le hP hQ (Int.ediv_mul_le _ (by omega)) ?_ (V := val v) ?_
    · have e : (top + 1) * pw (m + 1) = pw (m + 1) * (u[m + 1] + 4294967296 * u[m + 2]) + pw (m + 1) := by rw [htp]; grind
      omega
    · rw [Int.mul_comm]; omega
  have hQ1 : val u / val v ≤ top / v[m + 1] := Int.le_ediv_of_mul_le (by omega) hQtop
  have hQ2 : val u / val v < 4294967296 := Int.ediv_lt_of_lt_mul hv0 hlt
  have hd0 : 0 ≤ top / v[m + 1] := Int.ediv_nonneg htp0 (by omega)
  have hd1 : top / v[m + 1] < 18446744073709551616 := by
    have : top / v[m + 1] ≤ top := Int.ediv_le_self _ htp0
    omega
  -- the first guess
  obtain ⟨q, hq⟩ : ∃ q, q = mn (top / v[m + 1]) 4294967295 := ⟨_, rfl⟩
  have hq' := hq
  rw [mn_eq] at hq'
  have q0 : 0 ≤ q := by omega
  have q1 : q < 4294967296 := by omega
  have hqm := mul_bd32 ⟨q0, q1⟩ gv1
  have hqt : q * v[m + 1] ≤ top := by
    have h1 : q * v[m + 1] ≤ (top / v[m + 1]) * v[m + 1] := Int.mul_le_mul_of_nonneg_right (by omega) (by omega)
    have h2 := Int.ediv_mul_le top (show v[m + 1] ≠ 0 by omega)
    omega
  -- the limb above is not above the divisor's highest
  have hu2 : u[m + 2] ≤ v[m + 1] := by
    by_cases h : u[m + 2] ≤ v[m + 1]
    · exact h
    · have h1 : pw (m + 1) * (4294967296 * (v[m + 1] + 1)) ≤ pw (m + 1) * (u[m + 1] + 4294967296 * u[m + 2]) := Int.mul_le_mul_of_nonneg_left (by omega) (Int.le_of_lt hP)
      have h2 : pw (m + 1) * (4294967296 * (v[m + 1] + 1)) = 4294967296 * (pw (m + 1) * v[m + 1]) + 4294967296 * pw (m + 1) := by grind
      omega
  have hr1 : top - q * v[m + 1] < 8589934592 := by
    by_cases h : top / v[m + 1] ≤ 4294967295
    · have e : q = top / v[m + 1] := by omega
      have h3 := Int.emod_lt_of_pos top (show 0 < v[m + 1] by omega)
      have h4 := Int.mul_ediv_add_emod top v[m + 1]
      rw [e, Int.mul_comm]
      omega
    · have e : q = 4294967295 := by omega
      rw [e, htp]
      omega
  obtain ⟨u', h1, h2⟩ := digit_l0 u v hu hv hnv m hm (by omega) top htp htop hlt hQ (q.toNat + 1) q (top - q * v[m + 1]) (by omega) q0 q1 rfl (by omega) hr1 (by omega)
  refine ⟨u', Ev.congr (fun k => ?_) h1, h2⟩
  have eor : Go.bits .or .u64 (IntKind.u64.wrap ((IntKind.u64.wrap u[m + 2]) * 4294967296)) (IntKind.u64.wrap u[m + 1]) = top := by
    rw [u64 (x := u[m + 2]) (by omega) (by omega), u64 (x := u[m + 2] * 4294967296) (by omega) (by omega), u64 (x := u[m + 1]) (by omega) (by omega), or_join gu2 gu1, htp]
  have er2 : rd u (v.length : Int) = u[m + 2] := by rw [rd_D, hm, getD_get _ _ (show m + 2 < u.length by omega)]
  unfold nat_digit.f
  rw [w64 (x := (v.length : Int) - 1) (by omega) (by omega), show (v.length : Int) - 1 = ((m + 1 : Nat) : Int) by omega, if_pos (by omega), if_pos (by omega), if_pos (by omega), if_pos (by omega), if_pos (by omega), rd_get _ _ (show m + 1 < v.length by omega), er2, rd_get _ _ (show m + 1 < u.length by omega), eor, u64 (x := v[m + 1]) (by omega) (by omega), if_neg (by omega), Int.tdiv_eq_ediv_of_nonneg htp0, u64 hd0 hd1, ← hq, u64 (x := q * v[m + 1]) (by omega) (by omega), u64 (by omega) (by omega)]
end Go.Proofs.YtlfpnohpcemkgaaDoor.V
