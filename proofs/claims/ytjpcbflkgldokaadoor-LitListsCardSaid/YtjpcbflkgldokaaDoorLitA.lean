import Derived.Test.YtjpcbflkgldokaaDoorLitS
import Derived.Test.YtjpcbflkgldokaaDoorHEscape
import Derived.Test.YtjpcbflkgldokaaDoorPAx5
import Derived.Test.YtjpcbflkgldokaaDoorPAx6
/- lit's awake, LitBack and LitJoins, as plain statements. -/
namespace Go.Proofs.YtjpcbflkgldokaaDoor.S
set_option linter.unusedVariables false
set_option linter.unusedSimpArgs false
open Go.RowKit Go.Proofs.YtjpcbflkgldokaaDoor.PA Go.Proofs.YtjpcbflkgldokaaDoor.H Go.Proofs.YtjpcbflkgldokaaDoorW.PrintWords Go.Proofs.YtjpcbflkgldokaaDoorW.PrintLast

theorem awake_ev : Ev (fun k => gudgeonlaw07_awake.f k) true := Ev.of (fun k => gudgeonlaw07_awake.mono k) (k := 40) (by kernel_rfl)

theorem indexByte_at (h y : List UInt8) (c : UInt8) (hn : c ∉ h) : Lib.indexByte (h ++ c :: y) c = (h.length : Int) := by
  induction h with
  | nil => simp [Lib.indexByte]
  | cons b h ih =>
    have h1 : b ≠ c := fun e => hn (by rw [e]; exact List.mem_cons_self)
    have h2 := ih (fun e => hn (List.mem_cons_of_mem _ e))
    simp only [List.cons_append, Lib.indexByte, h2, List.length_cons]
    rw [if_neg (by simpa using h1), if_neg (by simp only [beq_iff_eq]; omega)]
    omega
theorem esc_brace (h y : List UInt8) (hn : (125 : UInt8) ∉ h) (hl : h.length ≤ 5) : esc (92 :: 117 :: 123 :: (h ++ 125 :: y)) = (num h, (h.length : Int) + 4) := by
  unfold esc
  have e : Lib.indexByte (h ++ 125 :: y) 125 = (h.length : Int) := indexByte_at h y 125 hn
  simp only [List.take_succ_cons, List.take_zero, List.drop_succ_cons, List.drop_zero, if_true, e]
  rw [if_neg (by omega), if_neg (by omega), Int.toNat_natCast, List.take_left]
theorem esc_plain (b : UInt8) (y : List UInt8) (hb : b ≠ 92) : esc (b :: y) = (-1, 0) := by
  unfold esc
  rw [if_neg]
  intro h
  cases y with
  | nil => simp at h
  | cons c y => simp at h; exact hb h.1
theorem hexd_cases : ∀ d : Fin 16, hexv (hexd d.val) = d.val ∧ hexd d.val ≠ 125 ∧ 32 ≤ (hexd d.val).toNat ∧ (hexd d.val).toNat ≤ 126 := by decide
theorem numF_app (x y : List UInt8) : ∀ n, 0 ≤ n → 0 ≤ numF n x → numF n (x ++ y) = numF (numF n x) y := by
  induction x with
  | nil => intro n h0 h; rfl
  | cons c x ih =>
    intro n h0 h
    simp only [List.cons_append, numF] at h ⊢
    split
    · rename_i hc; rw [if_pos hc] at h; omega
    · rename_i hc
      rw [if_neg hc] at h
      rw [ih _ (by omega) h]
theorem numF_hexF : ∀ (k n : Nat), n < 16 ^ k → 1 ≤ k → numF 0 (hexF k n) = n
  | 0, n, hn, hk => by omega
  | k + 1, n, hn, hk => by
    simp only [hexF]
    by_cases h : n < 16
    · rw [if_pos h]
      have := (hexd_cases ⟨n, h⟩).1
      simp only at this
      simp only [numF, this]
      rw [if_neg (by omega)]
      omega
    · rw [if_neg h]
      have hp : n / 16 < 16 ^ k := by
        rw [Nat.pow_succ] at hn
        omega
      have hk1 : 1 ≤ k := by
        rcases Nat.eq_zero_or_pos k with h0 | h0
        · subst h0; simp at hn; omega
        · exact h0
      have ih := numF_hexF k (n / 16) hp hk1
      rw [numF_app _ _ 0 (by omega) (by rw [ih]; omega), ih]
      have := (hexd_cases ⟨n % 16, Nat.mod_lt _ (by decide)⟩).1
      simp only at this
      simp only [numF, this]
      rw [if_neg (by omega)]
      omega
theorem hexF_short : ∀ (j k n : Nat), n < 16 ^ j → 1 ≤ j → (hexF k n).length ≤ j
  | j, 0, n, hn, hj => by simp [hexF]
  | j, k + 1, n, hn, hj => by
    simp only [hexF]
    split
    · simpa using hj
    · rename_i h
      have hj2 : 2 ≤ j := by
        rcases Nat.lt_or_ge j 2 with h2 | h2
        · obtain rfl : j = 1 := by omega
          omega
        · exact h2
      obtain ⟨i, rfl⟩ : ∃ i, j = i + 1 := ⟨j - 1, by omega⟩
      have := hexF_short i k (n / 16) (by rw [Nat.pow_succ] at hn; omega) (by omega)
      simp only [List.length_append, List.length_cons, List.length_nil]
      omega
theorem hexF_all : ∀ (k n : Nat), ∀ b ∈ hexF k n, b ≠ 125 ∧ 32 ≤ b.toNat ∧ b.toNat ≤ 126
  | 0, n => by simp [hexF]
  | k + 1, n => by
    simp only [hexF]
    split
    · rename_i h
      intro b hb
      obtain rfl := List.mem_singleton.1 hb
      exact (hexd_cases ⟨n, h⟩).2
    · intro b hb
      rcases List.mem_append.1 hb with hb | hb
      · exact hexF_all k _ b hb
      · obtain rfl := List.mem_singleton.1 hb
        exact (hexd_cases ⟨n % 16, Nat.mod_lt _ (by decide)⟩).2
theorem hexF_ne : ∀ (k n : Nat), 1 ≤ k → hexF k n ≠ []
  | 0, n, hk => by omega
  | k + 1, n, hk => by
    simp only [hexF]
    split <;> simp
theorem num_hexF (n : Nat) (hn : n ≤ 196607) : num (hexF 8 n) = n := by
  unfold num
  rw [if_neg (hexF_ne 8 n (by omega)), numF_hexF 8 n (by omega) (by omega), if_neg (by omega)]
/-- What is written of a number, ahead of whatever. -/
theorem pts_escB (c : Int) (x y : List UInt8) (h : escB c = some x) : pts (x ++ y) = c :: pts y := by
  unfold escB at h
  split at h
  · rename_i hp
    obtain rfl := Option.some.inj h
    by_cases hq : 32 ≤ c ∧ c ≤ 126 ∧ c ≠ 92
    · rw [if_pos hq]
      have hb : UInt8.ofNat c.toNat ≠ 92 := by
        intro e
        have := congrArg UInt8.toNat e
        simp at this
        omega
      simp only [List.cons_append, List.nil_append]
      rw [pts_cons, esc_plain _ _ hb, if_pos (by decide)]
      congr 1
      simp
      omega
    · rw [if_neg hq]
      have hsh := hexF_short 5 8 c.toNat (by omega) (by omega)
      have hnm : (125 : UInt8) ∉ hexF 8 c.toNat := fun hm => (hexF_all 8 c.toNat _ hm).1 rfl
      have e : [92, 117, 123] ++ hexF 8 c.toNat ++ [125] ++ y = 92 :: 117 :: 123 :: (hexF 8 c.toNat ++ 125 :: y) := by simp
      rw [e, pts_cons, esc_brace _ _ hnm hsh, num_hexF _ (by omega), if_neg (by omega)]
      congr 1
      · omega
      · congr 1
        have : ((hexF 8 c.toNat).length + 4 : Int).toNat = (hexF 8 c.toNat).length + 1 + 3 := by omega
        simp only [this, List.drop_succ_cons]
        rw [show hexF 8 c.toNat ++ 125 :: y = (hexF 8 c.toNat ++ [125]) ++ y by simp]
        exact List.drop_left' (by simp)
  · cases h
theorem pts_escL (l : List Int) : ∀ (x y : List UInt8), escL l = some x → pts (x ++ y) = l ++ pts y := by
  induction l with
  | nil => intro x y h; simp only [escL] at h; obtain rfl := Option.some.inj h; rfl
  | cons c l ih =>
    intro x y h
    simp only [escL] at h
    obtain ⟨a, ha, h⟩ := Option.bind_eq_some_iff.1 h
    obtain ⟨b, hb, rfl⟩ := Option.map_eq_some_iff.1 h
    rw [List.append_assoc, pts_escB c a _ ha, ih b y hb]
    rfl
theorem escL_some (l : List Int) (h : ∀ c ∈ l, 0 ≤ c ∧ c ≤ 196607) : ∃ x, escL l = some x := by
  induction l with
  | nil => exact ⟨[], rfl⟩
  | cons c l ih =>
    obtain ⟨x, hx⟩ := ih (fun d hd => h d (List.mem_cons_of_mem _ hd))
    have hc := h c List.mem_cons_self
    simp only [escL]
    unfold escB
    rw [if_pos hc]
    exact ⟨_, by simp only [Option.bind_some]; rw [hx]; rfl⟩
theorem escL_len (l : List Int) : ∀ x, escL l = some x → x.length ≤ 12 * l.length := by
  induction l with
  | nil => intro x h; simp only [escL] at h; obtain rfl := Option.some.inj h; simp
  | cons c l ih =>
    intro x h
    simp only [escL] at h
    obtain ⟨a, ha, h⟩ := Option.bind_eq_some_iff.1 h
    obtain ⟨b, hb, rfl⟩ := Option.map_eq_some_iff.1 h
    have h1 := escB_len ha
    have h2 := ih b hb
    simp only [List.length_append, List.length_cons]
    omega
theorem escL_all (l : List Int) : ∀ x, escL l = some x → ∀ b ∈ x, 32 ≤ b.toNat ∧ b.toNat ≤ 126 := by
  induction l with
  | nil => intro x h; simp only [escL] at h; obtain rfl := Option.some.inj h; simp
  | cons c l ih =>
    intro x h
    simp only [escL] at h
    obtain ⟨a, ha, h⟩ := Option.bind_eq_some_iff.1 h
    obtain ⟨b, hb, rfl⟩ := Option.map_eq_some_iff.1 h
    intro u hu
    rcases List.mem_append.1 hu with hu | hu
    · unfold escB at ha
      split at ha
      · obtain rfl := Option.some.inj ha
        split at hu
        · rename_i hp hq
          obtain rfl := List.mem_singleton.1 hu
          simp
          omega
        · simp only [List.mem_append, List.mem_cons, List.not_mem_nil, or_false] at hu
          rcases hu with ((rfl | rfl | rfl) | hu) | rfl
          · decide
          · decide
          · decide
          · exact (hexF_all 8 _ u hu).2
          · decide
      · cases ha
    · exact ih b hb u hu
theorem escape_f (l : List Int) (h : l.length ≤ 1000000000000) : lit_Escape.f l = some (match escL l with | some x => (⟨x.toArray⟩, 0) | none => (⟨#[]⟩, 1)) := by
  unfold lit_Escape.f; rw [if_pos h]; rfl
theorem ba_data (x : List UInt8) : ((⟨x.toArray⟩ : ByteArray).data.toList) = x := by simp
theorem ba_size (x : List UInt8) : ((⟨x.toArray⟩ : ByteArray).size) = x.length := by rw [Lib.size_eq, ba_data]
/-- The last loop of LitBack. -/
theorem back_l0 (x1 : ByteArray) (p : List Int) (u : List UInt8) (hu : ∀ b ∈ u, 32 ≤ b.toNat ∧ b.toNat ≤ 126) (hz : u.length ≤ 10000000) (hp : p.length ≤ x1.size) (d : Nat) : ∀ i : Nat, i + d = u.length →
    Ev (fun k => gudgeonlaw07_LitBack.l0 k x1 p ⟨u.toArray⟩ 0 true (i : Int)) true := by
  have hs : (⟨u.toArray⟩ : ByteArray).size = u.length := ba_size u
  induction d with
  | zero =>
    intro i hi
    refine Ev.step (f := fun _ => some true) (fun k => ?_) (Ev.now _)
    simp only [gudgeonlaw07_LitBack.l0]
    rw [if_neg (by omega)]
    simp only [if_true]
    rw [decide_eq_true (by omega)]
  | succ d ih =>
    intro i hi
    have hlt : i < u.length := by omega
    have hb := hu u[i] (List.getElem_mem hlt)
    have hbt : bt ⟨u.toArray⟩ (i : Int) = (u[i].toNat : Int) := bt_nat ⟨u.toArray⟩ i hlt
    obtain ⟨K, hK⟩ := ih (i + 1) (by omega)
    refine ⟨K + 1, fun k hk => ?_⟩
    obtain ⟨k, rfl⟩ : ∃ m, k = m + 1 := ⟨k - 1, by omega⟩
    simp only [gudgeonlaw07_LitBack.l0]
    rw [if_pos (by omega), if_pos (by omega), hbt, if_neg (by omega), if_neg (by omega), w64 (by omega) (by omega)]
    exact hK k (by omega)
theorem back_j1 (s : ByteArray) (hs : s.size ≤ 2000) : Ev (fun k => gudgeonlaw07_LitBack.j1 k s false) true := by
  have hl := pts_len s.data.toList
  have hz : s.size = s.data.toList.length := Lib.size_eq s
  obtain ⟨u, hu⟩ := escL_some _ (pts_points s.data.toList)
  have hul := escL_len _ u hu
  have hpu : pts u = pts s.data.toList := by
    have := pts_escL _ u [] hu
    simpa [pts_nil] using this
  refine Ev.step (f := fun k => (lit_Points.f k s).bind fun t166 => ((lit_Escape.f t166).bind fun bt169 => ((lit_Points.f k bt169.1).bind fun t171 => ((gudgeonref07_Ints.f k t171 t166).bind fun t174 => (gudgeonlaw07_LitBack.l0 k s t166 bt169.1 bt169.2 t174 0))))) (fun k => ?_) ?_
  · simp only [gudgeonlaw07_LitBack.j1]
    rw [if_neg (by decide)]
  · refine Ev.bind (points_ev s (by omega)) ?_
    rw [escape_f _ (by omega), hu]
    simp only [Option.bind_some]
    refine Ev.bind (points_ev ⟨u.toArray⟩ (by rw [ba_size]; omega)) ?_
    rw [ba_data, hpu]
    refine Ev.bind (ints_ev _ _ (by omega)) ?_
    rw [decide_eq_true rfl]
    exact back_l0 s _ u (escL_all _ u hu) (by omega) (by omega) u.length 0 (by omega)
theorem LitBack : gudgeonlaw07_LitBack.Pure := by
  intro l s _ _ _ _
  refine Ev.rounds ?_
  unfold gudgeonlaw07_LitBack.f
  refine Ev.bind awake_ev ?_
  simp only [if_true]
  have out : ∀ x : Bool, x = true → Ev (fun k => gudgeonlaw07_LitBack.j0 k l s true x) true := by
    intro x hx
    refine Ev.step (f := fun _ => some true) (fun k => ?_) (Ev.now _)
    simp only [gudgeonlaw07_LitBack.j0]
    rw [if_pos hx]
  by_cases h1 : (l.length : Int) > 2000
  · simp only [if_pos h1]; exact out true rfl
  · simp only [if_neg h1]
    by_cases h2 : (s.size : Int) > 2000
    · exact out _ (decide_eq_true h2)
    · simp only [decide_eq_false h2]
      refine Ev.step (f := fun k => (lit_Escape.f l).bind fun bt160 => ((lit_Points.f k bt160.1).bind fun t162 => ((gudgeonref07_Ints.f k t162 l).bind fun t165 => (if bt160.2 = 0 then (if t165 = true then (gudgeonlaw07_LitBack.j1 k s false) else (gudgeonlaw07_LitBack.j1 k s true)) else (gudgeonlaw07_LitBack.j1 k s (bt160.1.toList != ([] : List UInt8))))))) (fun k => ?_) ?_
      · simp only [gudgeonlaw07_LitBack.j0]
        rw [if_neg (by decide)]
      · rw [escape_f l (by omega)]
        simp only [Option.bind_some]
        cases hx : escL l with
        | none =>
          simp only
          refine Ev.bind (points_ev ⟨#[]⟩ (by decide)) ?_
          refine Ev.bind (ints_ev _ _ (by have := pts_len ((⟨#[]⟩ : ByteArray).data.toList); simp at this; simp [this])) ?_
          have e : ((⟨#[]⟩ : ByteArray).toList != ([] : List UInt8)) = false := by rw [Lib.toList_data]; rfl
          simp only [if_neg (show ¬ ((1 : Int) = 0) by decide), e]
          exact back_j1 s (by omega)
        | some x =>
          simp only
          have hxl := escL_len l x hx
          have hp : pts x = l := by
            have := pts_escL l x [] hx
            simpa [pts_nil] using this
          refine Ev.bind (points_ev ⟨x.toArray⟩ (by rw [ba_size]; omega)) ?_
          rw [ba_data, hp]
          refine Ev.bind (ints_ev _ _ (by omega)) ?_
          simp only [decide_true, if_true]
          exact back_j1 s (by omega)
theorem LitJoins : gudgeonlaw07_LitJoins.Pure := by
  intro a b _ _ _ _ _ _
  refine Ev.rounds ?_
  unfold gudgeonlaw07_LitJoins.f
  refine Ev.bind awake_ev ?_
  simp only [if_true]
  have out : ∀ x : Bool, x = true → Ev (fun k => gudgeonlaw07_LitJoins.j0 k a b true x) true := by
    intro x hx
    refine Ev.step (f := fun _ => some true) (fun k => ?_) (Ev.now _)
    simp only [gudgeonlaw07_LitJoins.j0]
    rw [if_pos hx]
  have out1 : ∀ (s t : ByteArray) (x : Bool), x = true → Ev (fun k => gudgeonlaw07_LitJoins.j1 k a b s t x) true := by
    intro s t x hx
    refine Ev.step (f := fun _ => some true) (fun k => ?_) (Ev.now _)
    simp only [gudgeonlaw07_LitJoins.j1]
    rw [if_pos hx]
  by_cases h1 : (a.length : Int) > 1000
  · simp only [if_pos h1]; exact out true rfl
  · simp only [if_neg h1]
    by_cases h2 : (b.length : Int) > 1000
    · exact out _ (decide_eq_true h2)
    · simp only [decide_eq_false h2]
      refine Ev.step (f := fun k => (lit_Escape.f a).bind fun bt176 => ((lit_Escape.f b).bind fun bt178 => (if bt176.2 = 0 then (gudgeonlaw07_LitJoins.j1 k a b bt176.1 bt178.1 (bt178.2 != 0)) else (gudgeonlaw07_LitJoins.j1 k a b bt176.1 bt178.1 true)))) (fun k => ?_) ?_
      · simp only [gudgeonlaw07_LitJoins.j0]
        rw [if_neg (by decide)]
      · rw [escape_f a (by omega), escape_f b (by omega)]
        simp only [Option.bind_some]
        cases hx : escL a with
        | none => simp only [if_neg (show ¬ ((1 : Int) = 0) by decide)]; exact out1 _ _ _ rfl
        | some x =>
          simp only [if_true]
          cases hy : escL b with
          | none => exact out1 _ _ _ rfl
          | some y =>
            have hxl := escL_len a x hx
            have hyl := escL_len b y hy
            simp only
            rw [show ((0 : Int) != 0) = false from rfl]
            have hd : ((⟨x.toArray⟩ : ByteArray) ++ ⟨y.toArray⟩).data.toList = x ++ y := by simp
            have hz : ((⟨x.toArray⟩ : ByteArray) ++ ⟨y.toArray⟩).size = x.length + y.length := by rw [Lib.size_eq, hd, List.length_append]
            refine Ev.step (f := fun k => (lit_Points.f k ((⟨x.toArray⟩ : ByteArray) ++ ⟨y.toArray⟩)).bind fun t183 => (if a.length + b.length < 17592186044416 then ((gudgeonref07_Ints.f k t183 (a ++ b)).bind fun t189 => (some t189)) else (none))) (fun k => ?_) ?_
            · simp only [gudgeonlaw07_LitJoins.j1]
              rw [if_neg (by decide), if_pos (by simp; omega)]
              simp only [Option.bind_some, List.nil_append]
              rw [if_pos (by rw [ba_size, ba_size]; omega)]
            · refine Ev.bind (points_ev _ (by omega)) ?_
              rw [hd, pts_escL a x y hx]
              have hpy : pts y = b := by
                have := pts_escL b y [] hy
                simpa [pts_nil] using this
              rw [hpy]
              simp only [if_pos (show a.length + b.length < 17592186044416 by omega)]
              refine Ev.bind (ints_ev _ _ (by simp; omega)) ?_
              rw [decide_eq_true rfl]
              exact Ev.now _
end Go.Proofs.YtjpcbflkgldokaaDoor.S
