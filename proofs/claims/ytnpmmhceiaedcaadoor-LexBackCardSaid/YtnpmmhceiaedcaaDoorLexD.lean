import Derived.Test.YtnpmmhceiaedcaaDoorLexC
/- lex: a script and what is written behind it. -/
namespace Go.Proofs.YtnpmmhceiaedcaaDoor.X
open Go.RowKit Go.Proofs.YtnpmmhceiaedcaaDoor.H Go.Proofs.YtnpmmhceiaedcaaDoor.PA Go.Proofs.YtnpmmhceiaedcaaDoorW.PrintWords Go.Proofs.YtnpmmhceiaedcaaDoorW.PrintLast Go.Proofs.YtnpmmhceiaedcaaDoorW.PrintMore
set_option linter.unusedVariables false
set_option linter.unusedSimpArgs false

theorem one_at (s : List UInt8) (h : s.length ≤ 100000) (hn : (sk false s).1 < s.length) : s.drop (sk false s).1 ≠ [] ∧ 0 ≤ (one (s.drop (sk false s).1)).2.2.2.1 ∧ (one (s.drop (sk false s).1)).2.2.2.1 ≤ s.length - (sk false s).1 ∧ ((one (s.drop (sk false s).1)).2.2.2.2 = 0 → 1 ≤ (one (s.drop (sk false s).1)).2.2.2.1) := by
  have hne : s.drop (sk false s).1 ≠ [] := by
    intro z; have := congrArg List.length z; rw [List.length_drop] at this; simp only [List.length_nil] at this; omega
  obtain ⟨_, _, o1, o2, o3⟩ := one_ok (s.drop (sk false s).1) hne (by rw [List.length_drop]; omega)
  rw [List.length_drop] at o2
  exact ⟨hne, o1, by omega, o3⟩
theorem lx_fuel : ∀ (f f' : Nat) (s : List UInt8) (c a : Nat), s.length ≤ 100000 → s.length < f → s.length < f' → lx f s c a = lx f' s c a
  | 0, _, _, _, _, _, h, _ => by omega
  | _, 0, _, _, _, _, _, h => by omega
  | f + 1, f' + 1, s, c, a, hb, h, h' => by
    have hle := sk_le false s
    simp only [lx]
    by_cases h2 : (sk false s).1 = s.length
    · simp only [if_pos h2]
    · obtain ⟨hne, o1, o2, o3⟩ := one_at s hb (by omega)
      by_cases h4 : (one (s.drop (sk false s).1)).2.2.2.2 = 0
      · have := o3 h4
        rw [lx_fuel f f' (s.drop ((sk false s).1 + (one (s.drop (sk false s).1)).2.2.2.1.toNat)) (c + 1) _ (by rw [List.length_drop]; omega) (by rw [List.length_drop]; omega) (by rw [List.length_drop]; omega)]
      · simp only [if_neg h4]
theorem lx_good : ∀ (f : Nat) (s : List UInt8) (c a : Nat), s.length ≤ 100000 → (a : Int) ≤ (lx f s c a).2.2 ∧ (lx f s c a).2.2 ≤ (a : Int) + s.length ∧ (lx f s c a).1.length ≤ s.length
  | 0, s, c, a, hb => by simp [lx]; omega
  | f + 1, s, c, a, hb => by
    have hle := sk_le false s
    simp only [lx]
    by_cases h1 : (sk false s).2 = true
    · rw [if_pos h1]; simp; omega
    rw [if_neg h1]
    by_cases h2 : (sk false s).1 = s.length
    · rw [if_pos h2]; simp; omega
    rw [if_neg h2]
    obtain ⟨hne, o1, o2, o3⟩ := one_at s hb (by omega)
    by_cases h3 : c = 4000
    · rw [if_pos h3]; simp; omega
    rw [if_neg h3]
    by_cases h4 : (one (s.drop (sk false s).1)).2.2.2.2 = 0
    · have h5 := o3 h4
      rw [if_pos h4]
      have := lx_good f (s.drop ((sk false s).1 + (one (s.drop (sk false s).1)).2.2.2.1.toNat)) (c + 1) (a + (sk false s).1 + (one (s.drop (sk false s).1)).2.2.2.1.toNat) (by rw [List.length_drop]; omega)
      rw [List.length_drop] at this
      simp only [List.length_cons]
      omega
    · rw [if_neg h4]; simp; omega
/-- Behind what is skipped it goes on as it would alone. -/
theorem lx_merge (u y : List UInt8) (f c a : Nat) (h : sk false (u ++ y) = ((sk false y).1 + u.length, (sk false y).2)) : lx (f + 1) (u ++ y) c a = lx (f + 1) y c (a + u.length) := by
  have hd : ∀ m, (u ++ y).drop ((sk false y).1 + u.length + m) = y.drop ((sk false y).1 + m) := by
    intro m
    rw [List.drop_append, List.drop_eq_nil_of_le (by omega), List.nil_append]; congr 1; omega
  have hd0 := hd 0
  rw [Nat.add_zero, Nat.add_zero] at hd0
  simp only [lx, h, hd, hd0, List.length_append]
  have e1 : ((sk false y).1 + u.length = u.length + y.length) ↔ ((sk false y).1 = y.length) := by omega
  have e2 : a + ((sk false y).1 + u.length) = a + u.length + (sk false y).1 := by omega
  have e3 : a + (u.length + y.length) = a + u.length + y.length := by omega
  simp only [e1, e2, e3]
theorem lx_app (y : List UInt8) (F : Nat) (hF : y.length < F) : ∀ (f f' : Nat) (x : List UInt8) (c a : Nat), (x ++ 10 :: y).length ≤ 100000 → x.length < f → (x ++ 10 :: y).length < f' →
    ((lx f x c a).2.1 = 0 → lx f' (x ++ 10 :: y) c a = ((lx f x c a).1 ++ (lx F y (c + (lx f x c a).1.length) (a + x.length + 1)).1, (lx F y (c + (lx f x c a).1.length) (a + x.length + 1)).2)) ∧
    ((lx f x c a).2.1 ≠ 0 → (lx f x c a).2.1 ≠ 51 → lx f' (x ++ 10 :: y) c a = lx f x c a)
  | 0, _, _, _, _, _, h, _ => by omega
  | _, 0, _, _, _, _, _, h => by omega
  | f + 1, f' + 1, x, c, a, hb, h, h' => by
    have hle := sk_le false x
    have hbx : x.length ≤ 100000 := by simp only [List.length_append, List.length_cons] at hb; omega
    have hlen : (x ++ 10 :: y).length = x.length + y.length + 1 := by simp only [List.length_append, List.length_cons]; omega
    by_cases h2 : (sk false x).1 = x.length
    · have hnb : (sk false x).2 ≠ true := by intro z; have := sk_bad false x z; omega
      have e : lx (f + 1) x c a = ([], 0, ((a + x.length : Nat) : Int)) := by
        simp only [lx]; rw [if_neg hnb, if_pos h2]
      rw [e]
      refine ⟨fun _ => ?_, fun z => absurd rfl z⟩
      have hsk := sk_nl y false x h2
      have := lx_merge (x ++ [10]) y f' c a (by rw [List.append_assoc, List.singleton_append, hsk]; simp [Nat.add_assoc])
      rw [List.append_assoc, List.singleton_append] at this
      rw [this, lx_fuel (f' + 1) F y _ _ (by omega) (by omega) hF]
      simp [Nat.add_assoc]
    · have hlt : (sk false x).1 < x.length := by omega
      have hsk := sk_lt (10 :: y) false x hlt
      obtain ⟨hne, o1, o2, o3⟩ := one_at x hbx hlt
      have hd : ∀ m, m ≤ x.length → (x ++ 10 :: y).drop m = x.drop m ++ 10 :: y := fun m hm => List.drop_append_of_le_length hm
      have hdn := hd _ hle
      simp only [lx, hsk, hdn]
      rw [if_neg h2, if_neg (show ¬ (sk false x).1 = (x ++ 10 :: y).length by omega)]
      by_cases h1 : (sk false x).2 = true
      · rw [if_pos h1, if_pos h1]
        exact ⟨fun z => by simp at z, fun _ _ => rfl⟩
      rw [if_neg h1, if_neg h1]
      by_cases h3 : c = 4000
      · rw [if_pos h3, if_pos h3]
        exact ⟨fun z => by simp at z, fun _ _ => rfl⟩
      rw [if_neg h3, if_neg h3]
      by_cases h51 : (one (x.drop (sk false x).1)).2.2.2.2 = 51
      · rw [if_neg (show ¬ (one (x.drop (sk false x).1)).2.2.2.2 = 0 by omega)]
        exact ⟨fun z => by simp only at z; omega, fun _ z => absurd h51 z⟩
      have hone := one_app (x.drop (sk false x).1) y hne (by simp only [List.length_append, List.length_cons, List.length_drop] at hb ⊢; omega) h51
      rw [hone]
      by_cases h4 : (one (x.drop (sk false x).1)).2.2.2.2 = 0
      · have h5 := o3 h4
        rw [if_pos h4, if_pos h4]
        have hm : (sk false x).1 + (one (x.drop (sk false x).1)).2.2.2.1.toNat ≤ x.length := by omega
        have hdl : (x.drop ((sk false x).1 + (one (x.drop (sk false x).1)).2.2.2.1.toNat)).length = x.length - ((sk false x).1 + (one (x.drop (sk false x).1)).2.2.2.1.toNat) := List.length_drop
        have ih := lx_app y F hF f f' (x.drop ((sk false x).1 + (one (x.drop (sk false x).1)).2.2.2.1.toNat)) (c + 1) (a + (sk false x).1 + (one (x.drop (sk false x).1)).2.2.2.1.toNat) (by simp only [List.length_append, List.length_cons, hdl] at hb ⊢; omega) (by omega) (by simp only [List.length_append, List.length_cons, hdl] at hb h' ⊢; omega)
        rw [hd _ hm]
        have ea : a + (sk false x).1 + (one (x.drop (sk false x).1)).2.2.2.1.toNat + (x.drop ((sk false x).1 + (one (x.drop (sk false x).1)).2.2.2.1.toNat)).length + 1 = a + x.length + 1 := by rw [hdl]; omega
        rw [ea] at ih
        generalize lx f (x.drop ((sk false x).1 + (one (x.drop (sk false x).1)).2.2.2.1.toNat)) (c + 1) (a + (sk false x).1 + (one (x.drop (sk false x).1)).2.2.2.1.toNat) = R at ih ⊢
        refine ⟨fun z => ?_, fun z z' => ?_⟩
        · have := ih.1 z
          simp only [this, List.length_cons, List.cons_append]
          rw [show c + 1 + R.1.length = c + (R.1.length + 1) by omega]
        · have := ih.2 z z'
          simp only [this]
      · rw [if_neg h4, if_neg h4]
        exact ⟨fun z => absurd z h4, fun _ _ => rfl⟩
theorem lx_end : ∀ (f f' : Nat) (x : List UInt8) (c a : Nat), (x ++ [10]).length ≤ 100000 → x.length < f → (x ++ [10]).length < f' → (lx f x c a).2.1 = 51 → (lx f' (x ++ [10]) c a).2.1 = 51
  | 0, _, _, _, _, _, h, _, _ => by omega
  | _, 0, _, _, _, _, _, h, _ => by omega
  | f + 1, f' + 1, x, c, a, hb, h, h', h51 => by
    have hle := sk_le false x
    have hbx : x.length ≤ 100000 := by simp only [List.length_append, List.length_cons] at hb; omega
    have hlen : (x ++ [10]).length = x.length + 1 := by simp
    simp only [lx] at h51
    by_cases h1 : (sk false x).2 = true
    · rw [if_pos h1] at h51; simp at h51
    rw [if_neg h1] at h51
    by_cases h2 : (sk false x).1 = x.length
    · rw [if_pos h2] at h51; simp at h51
    rw [if_neg h2] at h51
    have hlt : (sk false x).1 < x.length := by omega
    have hsk := sk_lt [10] false x hlt
    obtain ⟨hne, o1, o2, o3⟩ := one_at x hbx hlt
    by_cases h3 : c = 4000
    · rw [if_pos h3] at h51; simp at h51
    rw [if_neg h3] at h51
    have hd : ∀ m, m ≤ x.length → (x ++ [10]).drop m = x.drop m ++ [10] := fun m hm => List.drop_append_of_le_length hm
    have hdn := hd _ hle
    have hn2 : ¬ (sk false x).1 = (x ++ [10]).length := by rw [hlen]; omega
    simp only [lx, hsk, hdn]
    rw [if_neg h1, if_neg hn2, if_neg h3]
    by_cases h4 : (one (x.drop (sk false x).1)).2.2.2.2 = 0
    · have h5 := o3 h4
      rw [if_pos h4] at h51
      have hone := one_app (x.drop (sk false x).1) [] hne (by simp only [List.length_append, List.length_cons, List.length_drop, List.length_nil] at hb ⊢; omega) (by omega)
      rw [hone, if_pos h4]
      have hm : (sk false x).1 + (one (x.drop (sk false x).1)).2.2.2.1.toNat ≤ x.length := by omega
      rw [hd _ hm]
      have hdl : (x.drop ((sk false x).1 + (one (x.drop (sk false x).1)).2.2.2.1.toNat)).length = x.length - ((sk false x).1 + (one (x.drop (sk false x).1)).2.2.2.1.toNat) := List.length_drop
      exact lx_end f f' _ _ _ (by simp only [List.length_append, List.length_cons, List.length_nil, hdl] at hb ⊢; omega) (by omega) (by simp only [List.length_append, List.length_cons, List.length_nil, hdl] at hb h' ⊢; omega) h51
    · rw [if_neg h4] at h51
      have hone := one_end (x.drop (sk false x).1) hne (by simp only [List.length_append, List.length_cons, List.length_drop, List.length_nil] at hb ⊢; omega) h51
      rw [if_neg (show ¬ (one (x.drop (sk false x).1 ++ [10])).2.2.2.2 = 0 by omega)]
      exact hone
/-- Kind and text of a token. -/
abbrev key (t : S23) : Int × ByteArray := (t.f0, t.f1)
theorem lx_shift : ∀ (f : Nat) (s : List UInt8) (c a c' a' : Nat), s.length ≤ 100000 → c + s.length ≤ 4000 → c' + s.length ≤ 4000 → (lx f s c a).1.map key = (lx f s c' a').1.map key ∧ (lx f s c a).2.1 = (lx f s c' a').2.1
  | 0, s, c, a, c', a', hb, h, h' => by simp [lx]
  | f + 1, s, c, a, c', a', hb, h, h' => by
    have hle := sk_le false s
    simp only [lx]
    by_cases h1 : (sk false s).2 = true
    · rw [if_pos h1, if_pos h1]; simp
    rw [if_neg h1, if_neg h1]
    by_cases h2 : (sk false s).1 = s.length
    · rw [if_pos h2, if_pos h2]; simp
    rw [if_neg h2, if_neg h2]
    obtain ⟨hne, o1, o2, o3⟩ := one_at s hb (by omega)
    rw [if_neg (show ¬ c = 4000 by omega), if_neg (show ¬ c' = 4000 by omega)]
    by_cases h4 : (one (s.drop (sk false s).1)).2.2.2.2 = 0
    · have h5 := o3 h4
      rw [if_pos h4, if_pos h4]
      have hdl : (s.drop ((sk false s).1 + (one (s.drop (sk false s).1)).2.2.2.1.toNat)).length = s.length - ((sk false s).1 + (one (s.drop (sk false s).1)).2.2.2.1.toNat) := List.length_drop
      have := lx_shift f (s.drop ((sk false s).1 + (one (s.drop (sk false s).1)).2.2.2.1.toNat)) (c + 1) (a + (sk false s).1 + (one (s.drop (sk false s).1)).2.2.2.1.toNat) (c' + 1) (a' + (sk false s).1 + (one (s.drop (sk false s).1)).2.2.2.1.toNat) (by omega) (by omega) (by omega)
      simp only [List.map_cons, this, key, and_self]
    · rw [if_neg h4, if_neg h4]; simp
end Go.Proofs.YtnpmmhceiaedcaaDoor.X
