import Derived.Test.YtlfpnohpcemkgaaDoorNatD
import Derived.Test.YtlfpnohpcemkgaaDoorPAx4
import Derived.Test.YtlfpnohpcemkgaaDoorPAx5
/- nat.DivMod and nat.Gcd, as numbers. -/
namespace Go.Proofs.YtlfpnohpcemkgaaDoor.V
set_option linter.unusedVariables false
set_option linter.unusedSimpArgs false
open Go.RowKit Go.Proofs.YtlfpnohpcemkgaaDoor.PA Go.Proofs.YtlfpnohpcemkgaaDoor.H Go.Proofs.YtlfpnohpcemkgaaDoorW.PrintWords Go.Proofs.YtlfpnohpcemkgaaDoorW.PrintLast Go.Proofs.YtlfpnohpcemkgaaDoorW.PrintMore

theorem bitLenAux_spec (f x : Nat) (hx : x < 2 ^ f) : x < 2 ^ (Lib.bitLenAux f x) ∧ (0 < x → 2 ^ (Lib.bitLenAux f x) ≤ 2 * x) ∧ Lib.bitLenAux f x ≤ f := by
  induction f generalizing x with
  | zero => simp at hx; subst hx; simp [Lib.bitLenAux]
  | succ f ih =>
    unfold Lib.bitLenAux
    by_cases h : x = 0
    · rw [if_pos h]; subst h; simp
    · rw [if_neg h]
      rw [Nat.pow_succ] at hx
      obtain ⟨h1, h2, h3⟩ := ih (x / 2) (by omega)
      rw [Nat.add_comm 1, Nat.pow_succ]
      refine ⟨by omega, fun _ => ?_, by omega⟩
      by_cases hz : x / 2 = 0
      · rw [hz]
        have e : Lib.bitLenAux f 0 = 0 := by cases f <;> simp [Lib.bitLenAux]
        rw [e]; omega
      · have := h2 (by omega); omega
/-- By how many bits the divisor is moved up: its highest limb's highest bit stands then. -/
theorem lz_ev (x : Int) (h0 : 0 < x) (h1 : x < 4294967296) : ∃ n : Nat, bits_LeadingZeros32.f x = some (n : Int) ∧ n ≤ 31 ∧ 2147483648 ≤ x * 2 ^ n ∧ (x + 1) * 2 ^ n ≤ 4294967296 := by
  obtain ⟨a1, a2, a3⟩ := bitLenAux_spec 64 x.toNat (by omega)
  have a2 := a2 (by omega)
  have a4 : Lib.bitLen x.toNat ≤ 32 := by
    unfold Lib.bitLen
    by_cases h : Lib.bitLenAux 64 x.toNat ≤ 32
    · exact h
    · have := Nat.pow_le_pow_right (n := 2) (by omega) (show 33 ≤ Lib.bitLenAux 64 x.toNat by omega)
      omega
  have a5 : 1 ≤ Lib.bitLen x.toNat := by
    unfold Lib.bitLen
    by_cases h : Lib.bitLenAux 64 x.toNat = 0
    · rw [h] at a1; omega
    · omega
  unfold Lib.bitLen at a4 a5
  obtain ⟨b, hb⟩ : ∃ b, b = Lib.bitLenAux 64 x.toNat := ⟨_, rfl⟩
  rw [← hb] at a1 a2 a4 a5
  refine ⟨32 - b, ?_, by omega, ?_, ?_⟩
  · unfold bits_LeadingZeros32.f Lib.bitLen
    rw [if_pos (by omega), ← hb]
    congr 1
    omega
  · have e : (2 : Nat) ^ b * 2 ^ (32 - b) = 4294967296 := by rw [← Nat.pow_add, show b + (32 - b) = 32 by omega]
    have h2 : 2 ^ b * 2 ^ (32 - b) ≤ (2 * x.toNat) * 2 ^ (32 - b) := Nat.mul_le_mul_right _ a2
    have h3 : x * 2 ^ (32 - b) = ((x.toNat * 2 ^ (32 - b) : Nat) : Int) := by
      rw [Int.natCast_mul, Int.toNat_of_nonneg (by omega)]; simp
    rw [h3]
    rw [Nat.mul_assoc] at h2
    omega
  · have e : (2 : Nat) ^ b * 2 ^ (32 - b) = 4294967296 := by rw [← Nat.pow_add, show b + (32 - b) = 32 by omega]
    have h2 : (x.toNat + 1) * 2 ^ (32 - b) ≤ 2 ^ b * 2 ^ (32 - b) := Nat.mul_le_mul_right _ a1
    have hp : 0 < 2 ^ (32 - b) := Nat.two_pow_pos _
    have h3 : x * 2 ^ (32 - b) = ((x.toNat * 2 ^ (32 - b) : Nat) : Int) := by
      rw [Int.natCast_mul, Int.toNat_of_nonneg (by omega)]; simp
    have h4 : (2 : Int) ^ (32 - b) = ((2 ^ (32 - b) : Nat) : Int) := by simp
    rw [Int.add_mul, h3, Int.one_mul, h4]
    rw [Nat.add_mul, Nat.one_mul] at h2
    omega
/-- The limbs of a window, by the whole. -/
theorem digitW_ev (u v : List Int) (j : Nat) (hu : Lim u) (hv : Lim v) (hnv : v.length < 1000000000) (hnu : u.length < 2000000000) (h2 : 2 ≤ v.length) (hj : j + v.length + 1 ≤ u.length) (htop : 2147483648 ≤ v.getD (v.length - 1) 0) (hlt : val (u.drop (j + 1)) < val v) :
    ∃ u', Ev (fun k => nat_digitW.f k u (j : Int) (((j + v.length + 1 : Nat)) : Int) v) (val (u.drop j) / val v, u') ∧ u'.length = u.length ∧ Lim u' ∧ val (u'.drop j) = val (u.drop j) % val v ∧ val u' = val u - pw j * (val (u.drop j) / val v * val v) := by
  have hvv := val_lt hv
  have hP := pw_pos v.length
  -- nothing stands above the window
  have hsp : (u.drop j) = (u.take (j + v.length + 1)).drop j ++ u.drop (j + v.length + 1) := by
    rw [← List.take_append_drop (v.length + 1) (u.drop j), List.drop_drop, List.drop_take]
    congr 1
    congr 1
    omega
  have hlw : ((u.take (j + v.length + 1)).drop j).length = v.length + 1 := by rw [List.length_drop, List.length_take]; omega
  have hju : j < u.length := by omega
  have gj := hu.get j hju
  have hd1 : val (u.drop j) = u[j] + 4294967296 * val (u.drop (j + 1)) := val_drop_cons u j hju
  have hlt' : val (u.drop j) < 4294967296 * val v := by omega
  have hLw : Lim ((u.take (j + v.length + 1)).drop j) := (hu.take _).drop _
  have hw0 := val_nonneg hLw
  have hw : val ((u.take (j + v.length + 1)).drop j) = val (u.drop j) ∧ val (u.drop (j + v.length + 1)) = 0 := by
    have e := val_append ((u.take (j + v.length + 1)).drop j) (u.drop (j + v.length + 1))
    rw [← hsp, hlw, pw_succ] at e
    have h3 := val_nonneg (hu.drop (j + v.length + 1))
    by_cases hz : val (u.drop (j + v.length + 1)) = 0
    · rw [hz] at e; exact ⟨by omega, hz⟩
    · have : (4294967296 * pw v.length) * 1 ≤ (4294967296 * pw v.length) * val (u.drop (j + v.length + 1)) := Int.mul_le_mul_of_nonneg_left (by omega) (by omega)
      omega
  obtain ⟨w, h1, h2', h3, h4⟩ := digit_ev _ v hLw hv hnv h2 hlw htop (by rw [hw.1]; exact hlt')
  rw [hw.1] at h1 h4
  have hl' : (u.take j ++ w ++ u.drop (j + v.length + 1)).length = u.length := by simp [h2']; omega
  have hdj : (u.take j ++ w ++ u.drop (j + v.length + 1)).drop j = w ++ u.drop (j + v.length + 1) := by
    rw [List.append_assoc, List.drop_append_of_le_length (by simp; omega), List.drop_eq_nil_of_le (by simp; omega), List.nil_append]
  have hvd : val ((u.take j ++ w ++ u.drop (j + v.length + 1)).drop j) = val (u.drop j) % val v := by
    rw [hdj, val_append, hw.2, h4]; omega
  refine ⟨u.take j ++ w ++ u.drop (j + v.length + 1), ?_, hl', ((hu.take j).append h3).append (hu.drop _), hvd, ?_⟩
  · obtain ⟨K, hK⟩ := h1
    refine ⟨K, fun k hk => ?_⟩
    have hK := hK k hk
    show nat_digitW.f k u (j : Int) ((j + v.length + 1 : Nat) : Int) v = _
    unfold nat_digitW.f
    rw [if_pos (by omega), Int.toNat_natCast, Int.toNat_natCast]
    simp only [] at hK
    rw [hK]
    rfl
  · have e1 := val_take_drop (u.take j ++ w ++ u.drop (j + v.length + 1)) j (by omega)
    have e2 := val_take_drop u j (by omega)
    have e3 : (u.take j ++ w ++ u.drop (j + v.length + 1)).take j = u.take j := by
      rw [List.append_assoc, List.take_append_of_le_length (by simp; omega), List.take_take, Nat.min_self]
    rw [e3, hvd] at e1
    rw [e1, e2]
    have e4 := Int.mul_ediv_add_emod (val (u.drop j)) (val v)
    generalize val (u.drop j) / val v = q at *
    generalize val (u.drop j) % val v = r at *
    rw [← e4]
    grind
theorem divmod_l0 (b v : List Int) (n : Nat) (A Bn : Int) (hn : n ≤ 31) (hv : Lim v) (hbv : b.length = v.length) (hnv : v.length < 1000000000) (h2 : 2 ≤ v.length) (htop : 2147483648 ≤ v.getD (v.length - 1) 0) (hV : val v = Bn * 2 ^ n) (d : Nat) : ∀ (u q : List Int), d ≤ q.length → u.length = q.length + v.length → u.length < 2000000000 → Lim u → Lim q → val (q.take d) = 0 → val (u.drop d) < val v → val u + val v * val q = A * 2 ^ n →
    Ev (fun k => nat_DivMod.l0 k b (n : Int) u v q ((d : Int) - 1)) (dig (A / Bn), dig (A % Bn), 0) := by
  have hp := p_pos n
  have hvv := val_lt hv
  induction d with
  | zero =>
    intro u q hd hl hnu hu hq hz hlt hval
    rw [List.drop_zero] at hlt
    have hu0 := val_nonneg hu
    have htake : val (u.take b.length) = val u := by
      have e := val_take_drop u b.length (by omega)
      have h3 := val_nonneg (hu.drop b.length)
      have h4 := val_nonneg (hu.take b.length)
      rw [hbv] at e h3 h4 ⊢
      have hP := pw_pos v.length
      by_cases hz : val (u.drop v.length) = 0
      · rw [hz] at e; omega
      · have : pw v.length * 1 ≤ pw v.length * val (u.drop v.length) := Int.mul_le_mul_of_nonneg_left (by omega) (by omega)
        omega
    -- u is the rest, moved up
    have hB : 0 < Bn := by
      by_cases h : 0 < Bn
      · exact h
      · have h1 := Int.mul_le_mul_of_nonneg_right (show Bn ≤ 0 by omega) (Int.le_of_lt hp)
        rw [Int.zero_mul] at h1
        omega
    have hr : val u = (A - Bn * val q) * 2 ^ n := by
      have : (A - Bn * val q) * 2 ^ n = A * 2 ^ n - (Bn * 2 ^ n) * val q := by grind
      rw [this, ← hV]; omega
    have hr0 : 0 ≤ A - Bn * val q := by
      by_cases h : 0 ≤ A - Bn * val q
      · exact h
      · have : (A - Bn * val q) * 2 ^ n < 0 := Int.mul_neg_of_neg_of_pos (by omega) hp
        omega
    have hr1 : A - Bn * val q < Bn := by
      have : (A - Bn * val q) * 2 ^ n < Bn * 2 ^ n := by omega
      exact Int.lt_of_mul_lt_mul_right this (Int.le_of_lt hp)
    obtain ⟨e1, e2⟩ := div_unique hB (a := A) (q := val q) (r := A - Bn * val q) (by rw [Int.mul_comm]; omega) hr0 hr1
    have hright := right_ev (u.take b.length) n (hu.take _) hn (by rw [List.length_take]; omega)
    rw [htake, hr, Int.mul_ediv_cancel _ (by omega)] at hright
    refine Ev.step (fun k => ?_) (Ev.bind (f := fun k t => some (dig (A / Bn), t, 0)) hright (by rw [e2]; exact Ev.now _))
    simp only [nat_DivMod.l0]
    rw [if_neg (by omega), norm_ev q hq (by omega)]
    simp only [Option.bind_some]
    rw [if_pos (by omega), if_pos (by omega), Int.toNat_natCast, e1]
  | succ d ih =>
    intro u q hd hl hnu hu hq hz hlt hval
    obtain ⟨u', h1, h2', h3, h4, h5⟩ := digitW_ev u v d hu hv hnv hnu h2 (by omega) htop hlt
    have hdu : d < u.length := by omega
    have hdq : d < q.length := by omega
    have gd := hu.get d hdu
    have gq := hq.get d hdq
    have hv0 : 0 < val v := by
      have := val_nonneg (hu.drop (d + 1))
      omega
    have hd1 : val (u.drop d) = u[d] + 4294967296 * val (u.drop (d + 1)) := val_drop_cons u d hdu
    have hq0 : 0 ≤ val (u.drop d) / val v := Int.ediv_nonneg (val_nonneg (hu.drop d)) (by omega)
    have hq1 : val (u.drop d) / val v < 4294967296 := Int.ediv_lt_of_lt_mul hv0 (by omega)
    have hm := Int.emod_lt_of_pos (val (u.drop d)) hv0
    have hz' : val (q.take d) = 0 ∧ q[d] = 0 := by
      have e := val_take_succ q d hdq
      rw [hz] at e
      have h6 := val_nonneg (hq.take d)
      have hP := pw_pos d
      by_cases h0 : q[d] = 0
      · rw [h0] at e; exact ⟨by omega, h0⟩
      · have : pw d * 1 ≤ pw d * q[d] := Int.mul_le_mul_of_nonneg_left (by omega) (by omega)
        omega
    refine Ev.step (fun k => ?_) (Ev.bind (f := fun k bt => if (d : Int) < (q.length : Int) then nat_DivMod.l0 k b (n : Int) bt.2 v (q.set (d : Int).toNat bt.1) (wrap64 ((d : Int) - 1)) else none) h1 ?_)
    · simp only [nat_DivMod.l0]
      rw [show ((d + 1 : Nat) : Int) - 1 = (d : Int) by omega, if_pos (by omega), if_pos (by omega), w64 (x := (d : Int) + (v.length : Int)) (by omega) (by omega), w64 (x := (d : Int) + (v.length : Int) + 1) (by omega) (by omega), show (d : Int) + (v.length : Int) + 1 = ((d + v.length + 1 : Nat) : Int) by omega, if_pos (by omega), if_pos (by omega)]
    · refine Ev.congr (fun k => ?_) (ih u' (q.set d (val (u.drop d) / val v)) (by simp; omega) (by simp; omega) (by omega) h3 (hq.set _ hq0 hq1) ?_ ?_ ?_)
      · simp only []
        rw [if_pos (by omega), Int.toNat_natCast, w64 (by omega) (by omega)]
      · rw [List.take_set_of_le (Nat.le_refl d)]; exact hz'.1
      · rw [h4]; exact hm
      · rw [h5, val_set _ _ _ hdq, hz'.2]
        rw [← hval]
        grind
theorem divmod_ev (a b : List Int) (ha : Lim a) (hb : Lim b) (hna : a.length < 1000000000) (hnb : b.length < 1000000000) :
    Ev (fun k => nat_DivMod.f k a b) (if val b = 0 then ([], [], 7) else (dig (val a / val b), dig (val a % val b), 0)) := by
  have va := val_nonneg ha
  have vb := val_nonneg hb
  have la := dig_length a ha
  have lb := dig_length b hb
  have na := norm_ev a ha (by omega)
  have nb := norm_ev b hb (by omega)
  by_cases hz : val b = 0
  · rw [if_pos hz]
    refine Ev.congr (f := fun _ => some _) (fun k => ?_) (Ev.now _)
    unfold nat_DivMod.f
    rw [na, nb, hz, dig_zero]
    rfl
  rw [if_neg hz]
  have hlb : 0 < (dig (val b)).length := by
    have : dig (val b) ≠ [] := by rw [Ne, dig_eq_nil vb]; exact hz
    cases h : dig (val b) with
    | nil => exact absurd h this
    | cons _ _ => simp
  have hc := cmp_ev (dig (val a)) (dig (val b)) (dig_lim _) (dig_lim _) (by omega) (by omega)
  rw [val_dig va, val_dig vb] at hc
  refine Ev.congr (fun k => by
    unfold nat_DivMod.f
    rw [na, nb, Option.bind_some, Option.bind_some, if_neg (by omega)]) (Ev.bind hc ?_)
  by_cases hlt : val a < val b
  · refine Ev.congr (f := fun _ => some _) (fun k => by unfold cmpI; rw [if_pos hlt, if_pos (by decide)]) ?_
    rw [Int.ediv_eq_zero_of_lt va hlt, Int.emod_eq_of_lt va hlt, dig_zero]
    exact Ev.now _
  have hcm : ¬ cmpI (val a) (val b) < 0 := by unfold cmpI; rw [if_neg hlt]; split <;> decide
  by_cases h1 : (dig (val b)).length = 1
  · obtain ⟨x, hx⟩ : ∃ x, dig (val b) = [x] := List.length_eq_one_iff.1 h1
    have hxb : val b = x := by rw [← val_dig vb, hx]; simp [val]
    have hx1 : x < 4294967296 := by have := dig_lim (val b) x (by rw [hx]; simp); exact this.2
    have hs := small_ev (dig (val a)) x (dig_lim _) (by omega) (by omega) (by omega)
    rw [val_dig va] at hs
    have hm0 := Int.emod_nonneg (val a) (show x ≠ 0 by omega)
    have hm1 := Int.emod_lt_of_pos (val a) (show 0 < x by omega)
    refine Ev.congr (fun k => by
      rw [if_neg hcm, if_pos (by omega), if_pos (by omega), hx, show rd [x] 0 = x from rfl, u64 (x := x) (by omega) (by omega)]) (Ev.bind hs ?_)
    refine Ev.congr (f := fun _ => some _) (fun k => ?_) (Ev.now _)
    simp only []
    rw [of_ev _ hm0 (by omega), hxb]
    rfl
  -- the great case
  have hlast := fun h => dig_last (n := val b) h
  obtain ⟨m, hm⟩ : ∃ m, (dig (val b)).length = m + 2 := ⟨(dig (val b)).length - 2, by omega⟩
  have hlen_le : (dig (val b)).length ≤ (dig (val a)).length := by
    by_cases h : (dig (val b)).length ≤ (dig (val a)).length
    · exact h
    · have := val_lt_of_length (dig_lim (val a)) (dig_lim (val b)) (by omega) hlast
      rw [val_dig va, val_dig vb] at this
      omega
  obtain ⟨e, he⟩ : ∃ e, (dig (val a)).length = e + (m + 2) := ⟨(dig (val a)).length - (m + 2), by omega⟩
  have hmb : m + 1 < (dig (val b)).length := by omega
  have gx := (dig_lim (val b)).get (m + 1) hmb
  have hx0 : (dig (val b))[m + 1] ≠ 0 := by
    have hne : dig (val b) ≠ [] := by rw [Ne, dig_eq_nil vb]; exact hz
    have := hlast hne
    rw [List.getLast_eq_getElem] at this
    simpa [hm] using this
  obtain ⟨n, z1, z2, z3, z4⟩ := lz_ev (dig (val b))[m + 1] (by omega) gx.2
  have hp := p_pos n
  have hp1 := p_le z2
  obtain ⟨u, u1, u2, u3, u4⟩ := left_ev (dig (val a)) n (dig_lim _) z2 (by omega)
  obtain ⟨vv, v1, v2, v3, v4⟩ := left_ev (dig (val b)) n (dig_lim _) z2 (by omega)
  rw [val_dig va] at u4
  rw [val_dig vb] at v4
  have hP := pw_pos (m + 1)
  -- the divisor's value, by its highest limb
  have dB : val b = val ((dig (val b)).take (m + 1)) + pw (m + 1) * (dig (val b))[m + 1] := by
    have h := val_take_succ (dig (val b)) (m + 1) hmb
    rw [List.take_of_length_le (by omega), val_dig vb] at h
    exact h
  have lB0 := val_nonneg ((dig_lim (val b)).take (m + 1))
  have lB1 := val_lt ((dig_lim (val b)).take (m + 1))
  rw [List.length_take, Nat.min_eq_left (by omega)] at lB1
  generalize hX : (dig (val b))[m + 1] = X at *
  have hBhi : val b * 2 ^ n < pw (m + 2) := by
    have h1 : (val b + 1) * 2 ^ n ≤ (pw (m + 1) * (X + 1)) * 2 ^ n := Int.mul_le_mul_of_nonneg_right (by rw [Int.mul_add]; omega) (Int.le_of_lt hp)
    have h2 : pw (m + 1) * ((X + 1) * 2 ^ n) ≤ pw (m + 1) * 4294967296 := Int.mul_le_mul_of_nonneg_left z4 (Int.le_of_lt hP)
    rw [← Int.mul_assoc] at h2
    rw [Int.add_mul, Int.one_mul] at h1
    rw [pw_succ (m + 1)]
    omega
  have hBlo : pw (m + 1) * 2147483648 ≤ val b * 2 ^ n := by
    have h1 : (pw (m + 1) * X) * 2 ^ n ≤ val b * 2 ^ n := Int.mul_le_mul_of_nonneg_right (by omega) (Int.le_of_lt hp)
    have h2 : pw (m + 1) * 2147483648 ≤ pw (m + 1) * (X * 2 ^ n) := Int.mul_le_mul_of_nonneg_left z3 (Int.le_of_lt hP)
    rw [← Int.mul_assoc] at h2
    omega
  have hvl : (vv.take (m + 2)).length = m + 2 := by rw [List.length_take]; omega
  have hvv : val (vv.take (m + 2)) = val b * 2 ^ n := by
    have h := val_take_drop vv (m + 2) (by omega)
    have h3 := val_nonneg (v3.drop (m + 2))
    have h4 := val_nonneg (v3.take (m + 2))
    have hP2 := pw_pos (m + 2)
    by_cases h0 : val (vv.drop (m + 2)) = 0
    · rw [h0] at h; omega
    · have : pw (m + 2) * 1 ≤ pw (m + 2) * val (vv.drop (m + 2)) := Int.mul_le_mul_of_nonneg_left (by omega) (by omega)
      omega
  have hLv : Lim (vv.take (m + 2)) := v3.take _
  have htop : 2147483648 ≤ (vv.take (m + 2)).getD (m + 2 - 1) 0 := by
    have hm1 : m + 1 < (vv.take (m + 2)).length := by omega
    rw [show m + 2 - 1 = m + 1 by omega, getD_get _ _ hm1]
    have h := val_take_succ (vv.take (m + 2)) (m + 1) hm1
    rw [List.take_of_length_le (by omega), hvv] at h
    have h3 := val_lt (hLv.take (m + 1))
    rw [List.length_take, Nat.min_eq_left (by omega)] at h3
    by_cases h4 : 2147483648 ≤ (vv.take (m + 2))[m + 1]
    · exact h4
    · have h5 : pw (m + 1) * ((vv.take (m + 2))[m + 1] + 1) ≤ pw (m + 1) * 2147483648 := Int.mul_le_mul_of_nonneg_left (by omega) (Int.le_of_lt hP)
      rw [Int.mul_add, Int.mul_one] at h5
      omega
  have hul : u.length = (e + 1) + (m + 2) := by omega
  have hstart : val (u.drop (e + 1)) < val b * 2 ^ n := by
    have h := val_take_drop u (e + 1) (by omega)
    have h3 := val_nonneg (u3.take (e + 1))
    have h4 := val_lt (dig_lim (val a))
    rw [val_dig va, he] at h4
    have h5 : val a * 2 ^ n < pw (e + (m + 2)) * 2 ^ n := Int.mul_lt_mul_of_pos_right h4 hp
    have h6 : pw (e + (m + 2)) = pw (e + 1) * pw (m + 1) := by rw [← pw_add]; congr 1; omega
    have h7 : pw (e + 1) * val (u.drop (e + 1)) < pw (e + 1) * (pw (m + 1) * 2 ^ n) := by
      rw [← Int.mul_assoc, ← h6]; omega
    have h8 := Int.lt_of_mul_lt_mul_left h7 (Int.le_of_lt (pw_pos _))
    have h9 : pw (m + 1) * 2 ^ n ≤ pw (m + 1) * 2147483648 := Int.mul_le_mul_of_nonneg_left hp1 (Int.le_of_lt hP)
    omega
  have hmain := divmod_l0 (dig (val b)) (vv.take (m + 2)) n (val a) (val b) z2 hLv (by omega) (by omega) (by omega) (by rw [hvl]; exact htop) hvv (e + 1) u (List.replicate (e + 1) 0) (by simp) (by simp [hvl]; omega) (by omega) u3 (Lim.zeros _) (by rw [List.take_of_length_le (by simp), val_zeros]) (by rw [hvv]; exact hstart) (by rw [u4, val_zeros]; omega)
  refine Ev.congr (fun k => by
    rw [if_neg hcm, if_neg (by omega), w64 (x := ((dig (val b)).length : Int) - 1) (by omega) (by omega), show ((dig (val b)).length : Int) - 1 = ((m + 1 : Nat) : Int) by omega, if_pos (by omega), if_pos (by omega), rd_get _ _ hmb, hX, z1, Option.bind_some]) (Ev.bind u1 ?_)
  refine Ev.congr (fun k => rfl) (Ev.bind v1 ?_)
  refine Ev.congr (fun k => ?_) hmain
  rw [if_pos (by omega), if_pos (by omega), he, hm, w64 (x := ((e + (m + 2) : Nat) : Int) - ((m + 2 : Nat) : Int)) (by omega) (by omega), w64 (x := ((e + (m + 2) : Nat) : Int) - ((m + 2 : Nat) : Int) + 1) (by omega) (by omega), show ((e + (m + 2) : Nat) : Int) - ((m + 2 : Nat) : Int) + 1 = ((e + 1 : Nat) : Int) by omega, if_pos (by omega), if_pos (by omega), Option.bind_some, Int.toNat_natCast, Int.toNat_natCast, List.length_replicate, w64 (by omega) (by omega)]

/-! ### the greatest common divisor -/
def gcdI (a b : Int) : Int := (Nat.gcd a.toNat b.toNat : Nat)
theorem gcdI_zero (a : Int) (h : 0 ≤ a) : gcdI a 0 = a := by unfold gcdI; simp; omega
theorem gcdI_rec (a b : Int) (ha : 0 ≤ a) (hb : 0 ≤ b) : gcdI b (a % b) = gcdI a b := by
  unfold gcdI
  obtain ⟨a, rfl⟩ := Int.eq_ofNat_of_zero_le ha
  obtain ⟨b, rfl⟩ := Int.eq_ofNat_of_zero_le hb
  have e : ((a : Int) % (b : Int)).toNat = a % b := by rw [← Int.natCast_emod]; exact Int.toNat_natCast _
  rw [e, Int.toNat_natCast, Int.toNat_natCast, Nat.gcd_comm a b, Nat.gcd_rec b a, Nat.gcd_comm]
theorem gcd_l0 (n : Nat) : ∀ (a b : Int), 0 ≤ a → 0 ≤ b → b.toNat = n → (dig a).length < 1000000000 → (dig b).length < 1000000000 → Ev (fun k => nat_Gcd.l0 k (dig a) (dig b)) (dig (gcdI a b)) := by
  induction n using Nat.strongRecOn with
  | _ n ih =>
    intro a b ha hb hn la lb
    by_cases hz : b = 0
    · subst hz
      refine Ev.step (f := fun _ => some _) (fun k => ?_) (Ev.now _)
      simp only [nat_Gcd.l0]
      rw [dig_zero, if_neg (by simp), gcdI_zero a ha]
    · have hlb : 0 < (dig b).length := by
        have : dig b ≠ [] := by rw [Ne, dig_eq_nil hb]; exact hz
        cases h : dig b with
        | nil => exact absurd h this
        | cons _ _ => simp
      have hd := divmod_ev (dig a) (dig b) (dig_lim _) (dig_lim _) la lb
      rw [val_dig ha, val_dig hb, if_neg hz] at hd
      have hm0 := Int.emod_nonneg a (show b ≠ 0 by omega)
      have hm1 := Int.emod_lt_of_pos a (show 0 < b by omega)
      have hlm : (dig (a % b)).length ≤ (dig b).length := by
        have := lt_of_dig_length hb (Nat.le_refl _)
        exact dig_length_le hm0 (by omega)
      have := ih (a % b).toNat (by omega) b (a % b) hb hm0 rfl lb (by omega)
      rw [gcdI_rec a b ha hb] at this
      refine Ev.step (fun k => by
        simp only [nat_Gcd.l0]
        rw [if_pos (by omega)]) (Ev.bind hd this)
theorem gcd_ev (a b : List Int) (ha : Lim a) (hb : Lim b) (hna : a.length < 1000000000) (hnb : b.length < 1000000000) : Ev (fun k => nat_Gcd.f k a b) (dig (gcdI (val a) (val b))) := by
  have la := dig_length a ha
  have lb := dig_length b hb
  refine Ev.congr (fun k => ?_) (gcd_l0 _ (val a) (val b) (val_nonneg ha) (val_nonneg hb) rfl (by omega) (by omega))
  unfold nat_Gcd.f
  rw [norm_ev a ha (by omega), norm_ev b hb (by omega)]
  rfl
end Go.Proofs.YtlfpnohpcemkgaaDoor.V
