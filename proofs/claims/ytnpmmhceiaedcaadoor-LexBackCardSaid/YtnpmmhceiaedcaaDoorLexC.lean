import Derived.Test.YtnpmmhceiaedcaaDoorLexB
import Derived.Test.YtnpmmhceiaedcaaDoorPAx4
/- lex: blanks and remarks, and a script's tokens. -/
namespace Go.Proofs.YtnpmmhceiaedcaaDoor.X
open Go.RowKit Go.Proofs.YtnpmmhceiaedcaaDoor.H Go.Proofs.YtnpmmhceiaedcaaDoor.PA Go.Proofs.YtnpmmhceiaedcaaDoorW.PrintWords Go.Proofs.YtnpmmhceiaedcaaDoorW.PrintLast Go.Proofs.YtnpmmhceiaedcaaDoorW.PrintMore
set_option linter.unusedVariables false
set_option linter.unusedSimpArgs false

/-- Blanks and remarks at the beginning (true: inside of a remark); and whether a byte that no script has stands behind them. -/
def sk : Bool → List UInt8 → Nat × Bool
  | _, [] => (0, false)
  | false, c :: r => if bk c = true then ((sk false r).1 + 1, (sk false r).2) else if c = 59 then ((sk true r).1 + 1, (sk true r).2) else (0, !gd c)
  | true, c :: r => if s1 c = true then ((sk true r).1 + 1, (sk true r).2) else if c = 10 then ((sk false r).1 + 1, (sk false r).2) else (0, true)
theorem sk_le : ∀ (b : Bool) (l : List UInt8), (sk b l).1 ≤ l.length
  | b, [] => by cases b <;> simp [sk]
  | false, c :: r => by
    have h1 := sk_le false r
    have h2 := sk_le true r
    simp only [sk, List.length_cons]; repeat' split
    all_goals simp only; omega
  | true, c :: r => by
    have h1 := sk_le false r
    have h2 := sk_le true r
    simp only [sk, List.length_cons]; repeat' split
    all_goals simp only; omega
theorem sk_bad : ∀ (b : Bool) (l : List UInt8), (sk b l).2 = true → (sk b l).1 < l.length
  | b, [], h => by cases b <;> simp [sk] at h
  | false, c :: r, h => by
    have h1 := sk_bad false r
    have h2 := sk_bad true r
    simp only [sk, List.length_cons] at h ⊢
    split
    · rename_i e; rw [if_pos e] at h; have := h1 h; simp only; omega
    · rename_i e; rw [if_neg e] at h
      split
      · rename_i e'; rw [if_pos e'] at h; have := h2 h; simp only; omega
      · simp
  | true, c :: r, h => by
    have h1 := sk_bad false r
    have h2 := sk_bad true r
    simp only [sk, List.length_cons] at h ⊢
    split
    · rename_i e; rw [if_pos e] at h; have := h2 h; simp only; omega
    · rename_i e; rw [if_neg e] at h
      split
      · rename_i e'; rw [if_pos e'] at h; have := h1 h; simp only; omega
      · simp
/-- What stands before the end stays as it is. -/
theorem sk_lt (y : List UInt8) : ∀ (b : Bool) (l : List UInt8), (sk b l).1 < l.length → sk b (l ++ y) = sk b l
  | b, [], h => by simp at h
  | false, c :: r, h => by
    have h1 := sk_lt y false r
    have h2 := sk_lt y true r
    simp only [List.cons_append, sk, List.length_cons] at h ⊢
    split
    · rename_i e; rw [if_pos e] at h; rw [h1 (by simp only at h; omega)]
    · rename_i e; rw [if_neg e] at h
      split
      · rename_i e'; rw [if_pos e'] at h; rw [h2 (by simp only at h; omega)]
      · rfl
  | true, c :: r, h => by
    have h1 := sk_lt y false r
    have h2 := sk_lt y true r
    simp only [List.cons_append, sk, List.length_cons] at h ⊢
    split
    · rename_i e; rw [if_pos e] at h; rw [h2 (by simp only at h; omega)]
    · rename_i e; rw [if_neg e] at h
      split
      · rename_i e'; rw [if_pos e'] at h; rw [h1 (by simp only at h; omega)]
      · rfl
/-- The end and a new line behind it. -/
theorem sk_nl (y : List UInt8) : ∀ (b : Bool) (l : List UInt8), (sk b l).1 = l.length → sk b (l ++ 10 :: y) = ((sk false y).1 + l.length + 1, (sk false y).2)
  | b, [], h => by
    cases b
    · simp [sk, bk10]
    · simp [sk, s110]
  | false, c :: r, h => by
    have h1 := sk_nl y false r
    have h2 := sk_nl y true r
    simp only [List.cons_append, sk, List.length_cons] at h ⊢
    split
    · rename_i e; rw [if_pos e] at h; rw [h1 (by simp only at h; omega)]; simp only [Prod.mk.injEq, and_true]; omega
    · rename_i e; rw [if_neg e] at h
      split
      · rename_i e'; rw [if_pos e'] at h; rw [h2 (by simp only at h; omega)]; simp only [Prod.mk.injEq, and_true]; omega
      · rename_i e'; rw [if_neg e'] at h; simp at h
  | true, c :: r, h => by
    have h1 := sk_nl y false r
    have h2 := sk_nl y true r
    simp only [List.cons_append, sk, List.length_cons] at h ⊢
    split
    · rename_i e; rw [if_pos e] at h; rw [h2 (by simp only at h; omega)]; simp only [Prod.mk.injEq, and_true]; omega
    · rename_i e; rw [if_neg e] at h
      split
      · rename_i e'; rw [if_pos e'] at h; rw [h1 (by simp only at h; omega)]; simp only [Prod.mk.injEq, and_true]; omega
      · rename_i e'; rw [if_neg e'] at h; simp at h
/-- A remark up to its new line. -/
theorem sk_remark (y : List UInt8) : ∀ (c : List UInt8), (∀ b ∈ c, s1 b = true) → sk true (c ++ 10 :: y) = ((sk false y).1 + c.length + 1, (sk false y).2)
  | [], _ => by simp [sk, s110]
  | b :: r, h => by
    have h1 := sk_remark y r (fun z hz => h z (List.mem_cons_of_mem _ hz))
    simp only [List.cons_append, sk, if_pos (h b List.mem_cons_self), h1, List.length_cons, Prod.mk.injEq, and_true]
    omega
/-- Inside of a remark, by the span. -/
theorem sk_true : ∀ (l : List UInt8), sk true l = if h : sp s1 l < l.length then (if l[sp s1 l] = 10 then (sp s1 l + (sk false (l.drop (sp s1 l))).1, (sk false (l.drop (sp s1 l))).2) else (sp s1 l, true)) else (l.length, false)
  | [] => by simp [sk, sp]
  | c :: r => by
    have ih := sk_true r
    have hl := sp_le s1 r
    by_cases hc : s1 c = true
    · have e : sp s1 (c :: r) = sp s1 r + 1 := by simp only [sp, if_pos hc]
      simp only [sk, if_pos hc, ih, e, List.length_cons, List.getElem_cons_succ, List.drop_succ_cons]
      by_cases h : sp s1 r < r.length
      · rw [dif_pos h, dif_pos (by omega)]
        split
        · simp only [Prod.mk.injEq, and_true]; omega
        · rfl
      · rw [dif_neg h, dif_neg (by omega)]
    · have e : sp s1 (c :: r) = 0 := by simp only [sp, if_neg hc]
      have e' : sk true (c :: r) = if c = 10 then ((sk false r).1 + 1, (sk false r).2) else (0, true) := by simp only [sk, if_neg hc]
      rw [e']
      simp only [e, List.length_cons, List.getElem_cons_zero, List.drop_zero]
      rw [dif_pos (by omega)]
      split
      · rename_i h10; subst h10
        simp only [sk, bk10, if_true, Prod.mk.injEq, and_true]; omega
      · rfl
theorem byte10 (c : UInt8) : ((c.toNat : Int) = 10) ↔ c = 10 := nat34 c 10
theorem byte59 (c : UInt8) : ((c.toNat : Int) = 59) ↔ c = 59 := nat34 c 59
theorem skip_at (s : List UInt8) (hs : s.length ≤ 100000) : ∀ (m : Nat) (a : Nat) (k : Nat), a ≤ s.length → s.length - a ≤ m → m < k →
    lex_skip.l0 k (ba s) (a : Int) = some ((a : Int) + ((sk false (s.drop a)).1 : Int), (sk false (s.drop a)).2) := by
  intro m
  induction m with
  | zero =>
    intro a k ha hm hk
    obtain ⟨k, rfl⟩ : ∃ j, k = j + 1 := ⟨k - 1, by omega⟩
    rw [List.drop_eq_nil_of_le (by omega)]
    simp only [lex_skip.l0, ba_size]
    rw [if_neg (by omega)]
    simp [sk]
  | succ m ih =>
    intro a k ha hm hk
    obtain ⟨k, rfl⟩ : ∃ j, k = j + 1 := ⟨k - 1, by omega⟩
    by_cases h : a < s.length
    · rw [List.drop_eq_getElem_cons h]
      simp -implicitDefEqProofs only [lex_skip.l0, ba_size, bt_ba s a h, bk_is, gd_is, Option.bind_some]
      rw [if_pos (show (a : Int) < (s.length : Int) by omega), if_pos (show (0 : Int) ≤ (a : Int) by omega)]
      by_cases h1 : bk s[a] = true
      · rw [if_pos h1, w64 (by omega) (by omega)]
        have := ih (a + 1) k (by omega) (by omega) (by omega)
        rw [show ((a : Int) + 1) = ((a + 1 : Nat) : Int) by omega, this]
        simp only [sk, if_pos h1, Option.some.injEq, Prod.mk.injEq, and_true]
        push_cast; omega
      · rw [if_neg h1]
        by_cases h2 : s[a] = 59
        · have hd : s.drop a = 59 :: s.drop (a + 1) := by rw [List.drop_eq_getElem_cons h, h2]
          have hsp : sp s1 (s.drop a) = sp s1 (s.drop (a + 1)) + 1 := by rw [hd]; simp only [sp, s159, if_true]
          have hl := sp_le s1 (s.drop (a + 1))
          rw [List.length_drop] at hl
          rw [if_pos ((byte59 _).2 h2), if_pos (show (a : Int) ≤ (s.length : Int) by omega), Int.toNat_natCast, show (s.length : Nat) = (ba s).size from rfl, ext_drop, F12 _ (by rw [List.length_drop]; omega), Option.bind_some, hsp]
          have hw : wrap64 ((a : Int) + ((sp s1 (s.drop (a + 1)) + 1 : Nat) : Int)) = ((a + 1 + sp s1 (s.drop (a + 1)) : Nat) : Int) := by rw [w64 (by omega) (by omega)]; omega
          rw [hw, ba_size]
          have ht := sk_true (s.drop (a + 1))
          have hlen : (s.drop (a + 1)).length = s.length - (a + 1) := List.length_drop
          by_cases h3 : sp s1 (s.drop (a + 1)) < (s.drop (a + 1)).length
          · have h3' : a + 1 + sp s1 (s.drop (a + 1)) < s.length := by omega
            have hg : (s.drop (a + 1))[sp s1 (s.drop (a + 1))] = s[a + 1 + sp s1 (s.drop (a + 1))] := by rw [List.getElem_drop]
            rw [dif_pos h3, hg] at ht
            rw [if_pos (show ((a + 1 + sp s1 (s.drop (a + 1)) : Nat) : Int) < (s.length : Int) by omega), if_pos (show (0 : Int) ≤ ((a + 1 + sp s1 (s.drop (a + 1)) : Nat) : Int) by omega), bt_ba s _ h3']
            by_cases h4 : s[a + 1 + sp s1 (s.drop (a + 1))] = 10
            · rw [if_pos h4, List.drop_drop] at ht
              rw [if_pos ((byte10 _).2 h4), ih _ k (by omega) (by omega) (by omega)]
              simp only [sk, h2, bk59, Bool.false_eq_true, if_false, if_true, ht, Option.some.injEq, Prod.mk.injEq, and_true]
              push_cast; omega
            · rw [if_neg h4] at ht
              rw [if_neg (fun z => h4 ((byte10 _).1 z))]
              simp only [sk, h2, bk59, Bool.false_eq_true, if_false, if_true, ht, Option.some.injEq, Prod.mk.injEq, and_true]
              push_cast; omega
          · rw [dif_neg h3] at ht
            rw [if_neg (show ¬ ((a + 1 + sp s1 (s.drop (a + 1)) : Nat) : Int) < (s.length : Int) by omega), ih _ k (by omega) (by omega) (by omega), List.drop_eq_nil_of_le (show s.length ≤ a + 1 + sp s1 (s.drop (a + 1)) by omega)]
            simp only [sk, h2, bk59, Bool.false_eq_true, if_false, if_true, ht, Option.some.injEq, Prod.mk.injEq, and_true]
            push_cast; omega
        · rw [if_neg (fun z => h2 ((byte59 _).1 z))]
          simp only [sk, if_neg h1, if_neg h2]
          simp
    · rw [List.drop_eq_nil_of_le (by omega)]
      simp only [lex_skip.l0, ba_size]
      rw [if_neg (by omega)]
      simp [sk]
theorem skip_is (s : List UInt8) (hs : s.length ≤ 100000) (k : Nat) (hk : s.length < k) : lex_skip.f k (ba s) = some (((sk false s).1 : Int), (sk false s).2) := by
  have := skip_at s hs s.length 0 k (by omega) (by omega) hk
  unfold lex_skip.f
  rw [show ((0 : Nat) : Int) = 0 from rfl] at this
  rw [this]; simp

/-- A script's tokens: what is left, how many came before, and where. -/
def lx : Nat → List UInt8 → Nat → Nat → List S23 × Int × Int
  | 0, s, c, a => ([], 0, a)
  | k + 1, s, c, a =>
    if (sk false s).2 = true then ([], 50, ((a + (sk false s).1 : Nat) : Int)) else
    if (sk false s).1 = s.length then ([], 0, ((a + s.length : Nat) : Int)) else
    if c = 4000 then ([], 2, ((a + (sk false s).1 : Nat) : Int)) else
    if (one (s.drop (sk false s).1)).2.2.2.2 = 0 then
      (let n := (sk false s).1; let o := one (s.drop n); let r := lx k (s.drop (n + o.2.2.2.1.toNat)) (c + 1) (a + n + o.2.2.2.1.toNat)
       (⟨o.1, o.2.1, ((a + n : Nat) : Int)⟩ :: r.1, r.2.1, r.2.2))
    else ([], (one (s.drop (sk false s).1)).2.2.2.2, ((a + (sk false s).1 : Nat) : Int) + (one (s.drop (sk false s).1)).2.2.2.1)
theorem Lex_at (S : List UInt8) (hS : S.length ≤ 16384) : ∀ (f : Nat) (s : List UInt8) (a : Nat) (acc : List S23) (k : Nat), a ≤ S.length → S.drop a = s → s.length < f → S.length + f + 5 ≤ k → acc.length ≤ a →
    lex_Lex.l0 k (ba S) acc (a : Int) = some (acc ++ (lx f s acc.length a).1, (lx f s acc.length a).2.1, (lx f s acc.length a).2.2) := by
  intro f
  induction f with
  | zero => intro s a acc k ha hs hf hk hc; omega
  | succ f ih =>
    intro s a acc k ha hs hf hk hc
    obtain ⟨k, rfl⟩ : ∃ j, k = j + 1 := ⟨k - 1, by omega⟩
    have hlen : s.length = S.length - a := by rw [← hs, List.length_drop]
    have hle := sk_le false s
    have hskip := skip_is s (by omega) k (by omega)
    have hw : wrap64 ((a : Int) + ((sk false s).1 : Int)) = ((a + (sk false s).1 : Nat) : Int) := by rw [w64 (by omega) (by omega)]; omega
    unfold lex_Lex.l0
    rw [if_pos (show (0 : Int) ≤ (a : Int) by omega), if_pos (show (a : Int) ≤ ((ba S).size : Int) by rw [ba_size]; omega), Int.toNat_natCast, ext_drop, hs, hskip, Option.bind_some]
    simp only [hw, ba_size]
    clear hw
    simp only [lx]
    by_cases h1 : (sk false s).2 = true
    · rw [if_pos h1, if_pos h1]; simp
    rw [if_neg h1, if_neg h1]
    by_cases h2 : (sk false s).1 = s.length
    · rw [if_pos (show ((a + (sk false s).1 : Nat) : Int) = (S.length : Int) by omega), if_pos h2, h2]; simp
    rw [if_neg (show ¬ ((a + (sk false s).1 : Nat) : Int) = (S.length : Int) by omega), if_neg h2]
    by_cases h3 : acc.length = 4000
    · rw [if_pos (show (acc.length : Int) = 4000 by omega), if_pos h3]; simp
    rw [if_neg (show ¬ (acc.length : Int) = 4000 by omega), if_neg h3]
    have hne : s.drop (sk false s).1 ≠ [] := by
      intro z; have := congrArg List.length z; rw [List.length_drop] at this; simp only [List.length_nil] at this; omega
    obtain ⟨ho, _, o1, o2, o3⟩ := one_ok (s.drop (sk false s).1) hne (by rw [List.length_drop]; omega)
    rw [List.length_drop] at o2
    have hone : lex_one.f k (ba (s.drop (sk false s).1)) = some (one (s.drop (sk false s).1)) := at_rounds (g := fun k => lex_one.f k (ba (s.drop (sk false s).1))) (fun k => lex_one.mono _ k) (by omega) ho
    have hdd : S.drop (a + (sk false s).1) = s.drop (sk false s).1 := by rw [← hs, List.drop_drop]
    rw [if_pos (show (0 : Int) ≤ ((a + (sk false s).1 : Nat) : Int) by omega), if_pos (show ((a + (sk false s).1 : Nat) : Int) ≤ (S.length : Int) by omega), Int.toNat_natCast, show (S.length : Nat) = (ba S).size from rfl, ext_drop, hdd, hone, Option.bind_some]
    generalize hO : one (s.drop (sk false s).1) = O at *
    generalize hn : (sk false s).1 = n at *
    have hw2 : wrap64 (((a + n : Nat) : Int) + O.2.2.2.1) = ((a + n : Nat) : Int) + O.2.2.2.1 := w64 (by omega) (by omega)
    rw [hw2]
    by_cases h4 : O.2.2.2.2 = 0
    · have o3' := o3 h4
      rw [if_pos h4, if_pos (show acc.length < 4398046511104 by omega), if_pos h4]
      have hq : ((a + n : Nat) : Int) + O.2.2.2.1 = ((a + n + O.2.2.2.1.toNat : Nat) : Int) := by omega
      have := ih (s.drop (n + O.2.2.2.1.toNat)) (a + n + O.2.2.2.1.toNat) (acc ++ [(⟨O.1, O.2.1, ((a + n : Nat) : Int)⟩ : S23)]) k (by omega) (by rw [← hs, List.drop_drop, Nat.add_assoc]) (by rw [List.length_drop]; omega) (by omega) (by simp; omega)
      rw [hq, this]
      simp only [List.length_append, List.length_singleton, List.append_assoc, List.singleton_append]
    · rw [if_neg h4, if_neg h4]; simp
theorem Lex_is (S : List UInt8) (hS : S.length ≤ 16384) (k : Nat) (hk : 2 * S.length + 6 ≤ k) : lex_Lex.f k (ba S) = some (lx (S.length + 1) S 0 0) := by
  have := Lex_at S hS (S.length + 1) S 0 [] k (by omega) rfl (by omega) (by omega) (by simp)
  unfold lex_Lex.f
  rw [if_neg (show ¬ ((ba S).size : Int) > 16384 by rw [ba_size]; omega)]
  rw [show ((0 : Nat) : Int) = 0 from rfl] at this
  rw [this]; rfl
end Go.Proofs.YtnpmmhceiaedcaaDoor.X
