import Derived.Test.YtnpmmhceiaedcaaLexD
import Derived.Test.YtnpmmhceiaedcaaPAx6
import Derived.Test.YtnpmmhceiaedcaaPAx7
import Derived.Laws.Strings
/- The laws LexRemarks and LexHeads, in plain Lean. -/
namespace Go.Proofs.Ytnpmmhceiaedcaa.X
open Go.RowKit Go.Proofs.Ytnpmmhceiaedcaa.H Go.Proofs.Ytnpmmhceiaedcaa.PA Go.Proofs.YtnpmmhceiaedcaaW.PrintWords Go.Proofs.YtnpmmhceiaedcaaW.PrintLast Go.Proofs.YtnpmmhceiaedcaaW.PrintMore
set_option linter.unusedVariables false
set_option linter.unusedSimpArgs false

theorem awake_is (k : Nat) (hk : 100 ≤ k) : gudgeonlaw05_awake.f k = some true := by
  have e1 := Lex_is [40, 97, 115, 115, 101, 114, 116, 32, 40, 61, 32, 120, 32, 34, 97, 34, 34, 98, 34, 41, 41, 32, 59, 32, 116, 104, 97, 116] (by decide) k (by simp only [List.length_cons, List.length_nil]; omega)
  have e2 := Lex_is [40, 120, 32, 34, 97, 98] (by decide) k (by simp only [List.length_cons, List.length_nil]; omega)
  have e3 := Lex_is [48, 48, 55] (by decide) k (by simp only [List.length_cons, List.length_nil]; omega)
  have f1 : (lx 29 [40, 97, 115, 115, 101, 114, 116, 32, 40, 61, 32, 120, 32, 34, 97, 34, 34, 98, 34, 41, 41, 32, 59, 32, 116, 104, 97, 116] 0 0).2.1 = 0 ∧ (lx 29 [40, 97, 115, 115, 101, 114, 116, 32, 40, 61, 32, 120, 32, 34, 97, 34, 34, 98, 34, 41, 41, 32, 59, 32, 116, 104, 97, 116] 0 0).2.2 = 28 ∧ (lx 29 [40, 97, 115, 115, 101, 114, 116, 32, 40, 61, 32, 120, 32, 34, 97, 34, 34, 98, 34, 41, 41, 32, 59, 32, 116, 104, 97, 116] 0 0).1.length = 8 ∧ ((rd_T31 (lx 29 [40, 97, 115, 115, 101, 114, 116, 32, 40, 61, 32, 120, 32, 34, 97, 34, 34, 98, 34, 41, 41, 32, 59, 32, 116, 104, 97, 116] 0 0).1 5).f1).data.toList = [97, 34, 98] :=
    ⟨by kernel_rfl, by kernel_rfl, by kernel_rfl, by kernel_rfl⟩
  have f2 : (lx 7 [40, 120, 32, 34, 97, 98] 0 0).2.1 = 51 ∧ (lx 7 [40, 120, 32, 34, 97, 98] 0 0).2.2 = 3 ∧ (lx 7 [40, 120, 32, 34, 97, 98] 0 0).1.length = 2 := ⟨by kernel_rfl, by kernel_rfl, by kernel_rfl⟩
  have f3 : (lx 4 [48, 48, 55] 0 0).2.1 = 8 := by kernel_rfl
  simp only [List.length_cons, List.length_nil, Nat.zero_add, Nat.reduceAdd] at e1 e2 e3
  generalize lx 29 _ 0 0 = A at e1 f1
  generalize lx 7 _ 0 0 = B at e2 f2
  generalize lx 4 _ 0 0 = C at e3 f3
  unfold gudgeonlaw05_awake.f
  rw [e1, Option.bind_some, e2, Option.bind_some, e3, Option.bind_some, if_pos f1.1, if_pos f1.2.1, if_pos (show (A.1.length : Int) = 8 by omega), if_pos (show 5 < (A.1.length : Int) by omega), ByteArray.toList_eq, if_pos f1.2.2.2, if_pos f2.1, if_pos f2.2.1, if_pos (show (B.1.length : Int) = 2 by omega), f3]
  rfl
theorem rd_at (l : List S31) (i : Nat) (h : i < l.length) : rd_T31 l (i : Int) = l[i] := by
  unfold rd_T31; rw [Int.toNat_natCast, List.getD_eq_getElem?_getD, List.getElem?_eq_getElem h]; rfl
theorem Same_at (l1 l2 : List S31) (p : Bool) (hb : l1.length ≤ 100000) (h : l1.map key = l2.map key) (hp : p = true → l1 = l2) : ∀ (m i k : Nat), i ≤ l1.length → l1.length - i ≤ m → m < k →
    gudgeonref05_Same.l0 k l1 l2 p (i : Int) = some true := by
  have hl : l1.length = l2.length := by have := congrArg List.length h; simpa using this
  intro m
  induction m with
  | zero =>
    intro i k hi hm hk
    obtain ⟨k, rfl⟩ : ∃ j, k = j + 1 := ⟨k - 1, by omega⟩
    rw [gudgeonref05_Same.l0, if_neg (by omega)]
  | succ m ih =>
    intro i k hi hm hk
    obtain ⟨k, rfl⟩ : ∃ j, k = j + 1 := ⟨k - 1, by omega⟩
    by_cases hi' : i < l1.length
    · have hi2 : i < l2.length := by omega
      have ek : key l1[i] = key l2[i] := by
        have e : (l1.map key)[i]? = (l2.map key)[i]? := by rw [h]
        rw [List.getElem?_map, List.getElem?_map, List.getElem?_eq_getElem hi', List.getElem?_eq_getElem hi2] at e
        exact Option.some.inj e
      have ek1 : l1[i].f0 = l2[i].f0 := congrArg Prod.fst ek
      have ek2 : l1[i].f1 = l2[i].f1 := congrArg Prod.snd ek
      have hw : wrap64 ((i : Int) + 1) = ((i + 1 : Nat) : Int) := by rw [w64 (by omega) (by omega)]; omega
      rw [gudgeonref05_Same.l0, if_pos (show (i : Int) < (l1.length : Int) by omega), if_pos (show (0 : Int) ≤ (i : Int) by omega), if_pos (show (i : Int) < (l2.length : Int) by omega), rd_at l1 i hi', rd_at l2 i hi2, if_pos ek1, ek2, if_pos rfl, hw]
      have := ih (i + 1) k (by omega) (by omega) (by omega)
      by_cases hpt : p = true
      · have e := hp hpt
        rw [if_pos hpt, if_pos (by subst e; rfl), this]
      · rw [if_neg hpt, this]
    · rw [gudgeonref05_Same.l0, if_neg (by omega)]
theorem Same_is (l1 l2 : List S31) (p : Bool) (hb : l1.length ≤ 100000) (h : l1.map key = l2.map key) (hp : p = true → l1 = l2) (k : Nat) (hk : l1.length < k) : gudgeonref05_Same.f k l1 l2 p = some true := by
  have hl : l1.length = l2.length := by have := congrArg List.length h; simpa using this
  unfold gudgeonref05_Same.f
  rw [if_pos (by omega)]
  exact Same_at l1 l2 p hb h hp l1.length 0 k (by omega) (by omega) hk

theorem heads_true (k : Nat) (a b : ByteArray) : gudgeonlaw05_LexHeads.j0 (k + 1) a b true true = some true := by
  rw [gudgeonlaw05_LexHeads.j0, if_pos rfl]
theorem heads (x y : List UInt8) (K : Nat) (hK : 30000 ≤ K) : gudgeonlaw05_LexHeads.f (K + 1) (ba x) (ba y) = some true := by
  unfold gudgeonlaw05_LexHeads.f
  rw [awake_is (K + 1) (by omega), Option.bind_some, if_pos rfl, ba_size, ba_size]
  by_cases hx : (x.length : Int) > 4000
  · rw [if_pos hx]; exact heads_true _ _ _
  rw [if_neg hx]
  by_cases hy : (y.length : Int) > 4000
  · rw [decide_eq_true hy]; exact heads_true _ _ _
  rw [decide_eq_false hy, gudgeonlaw05_LexHeads.j0, if_neg (by decide), ba_size, ba_size, if_pos (show x.length + 1 ≤ 9223372036854775807 by omega)]
  have l1 : (x ++ [10]).length = x.length + 1 := by simp
  have l2 : (x ++ 10 :: y).length = x.length + y.length + 1 := by simp only [List.length_append, List.length_cons]; omega
  have e1 : lex_Lex.f K (ba x ++ (⟨#[10]⟩ : ByteArray)) = some (lx (x.length + 2) (x ++ [10]) 0 0) := by
    have := Lex_is (x ++ [10]) (by omega) K (by omega)
    rw [l1] at this
    rw [← this]; exact congrArg (lex_Lex.f K) (app_ba x [10])
  have e2 : lex_Lex.f K ((ba x ++ (⟨#[10]⟩ : ByteArray)) ++ ba y) = some (lx (x.length + y.length + 2) (x ++ 10 :: y) 0 0) := by
    have := Lex_is (x ++ 10 :: y) (by omega) K (by omega)
    rw [l2] at this
    rw [← this]; refine congrArg (lex_Lex.f K) ?_
    have h1 := app_ba x [10]
    have h2 := app_ba (x ++ [10]) y
    rw [List.append_assoc, List.singleton_append] at h2
    rw [← h2, ← h1]
  rw [e1, Option.bind_some, if_pos (show x.length + 1 + y.length ≤ 9223372036854775807 by omega), e2, Option.bind_some]
  have hA := lx_app [] 1 (by simp) (x.length + 1) (x.length + 2) x 0 0 (by omega) (by omega) (by omega)
  have hB := lx_app y (y.length + 1) (by omega) (x.length + 1) (x.length + y.length + 2) x 0 0 (by omega) (by omega) (by omega)
  have hC := lx_end (x.length + 1) (x.length + 2) x 0 0 (by omega) (by omega) (by omega)
  have hG := lx_good (x.length + y.length + 2) (x ++ 10 :: y) 0 0 (by omega)
  have hE := lx_good (x.length + 1) x 0 0 (by omega)
  generalize lx (x.length + 1) x 0 0 = E at *
  generalize lx (x.length + 2) (x ++ [10]) 0 0 = H at *
  generalize lx (x.length + y.length + 2) (x ++ 10 :: y) 0 0 = W at *
  by_cases hz : E.2.1 = 0
  · have hH := hA.1 hz
    have hW := hB.1 hz
    generalize lx (y.length + 1) y _ _ = R at hW
    simp only [lx, sk, Bool.false_eq_true, if_false, List.length_nil, if_true, List.append_nil] at hH
    have hH1 : H.1 = E.1 := by rw [hH]
    have hH2 : H.2.1 = 0 := by rw [hH]
    have hW1 : W.1 = E.1 ++ R.1 := by rw [hW]
    have hWl : W.1.length = E.1.length + R.1.length := by rw [hW1, List.length_append]
    have ht : W.1.take E.1.length = E.1 := by rw [hW1, List.take_left']; rfl
    rw [if_pos hH2, hH1, if_neg (by omega), if_pos (by omega), if_pos (by omega), Int.toNat_natCast, ht, Same_is E.1 E.1 true (by omega) rfl (fun _ => rfl) K (by omega), Option.bind_some, if_pos rfl, if_pos (by omega)]
    have hw : wrap64 (wrap64 ((x.length : Int) + 1) + (y.length : Int)) = (x.length : Int) + 1 + y.length := by
      rw [w64 (n := (x.length : Int) + 1) (by omega) (by omega), w64 (by omega) (by omega)]
    have hle : W.2.2 ≤ (x.length : Int) + 1 + y.length := by
      have g := hG.2.1
      rw [l2] at g
      clear hG hA hB hC hE hH hW hw e1 e2 hz hH1 hH2 hW1 hWl ht
      push_cast at g
      omega
    rw [hw, decide_eq_true hle]
  · by_cases h51 : E.2.1 = 51
    · have hH := hC h51
      rw [if_neg (show ¬ H.2.1 = 0 by omega), if_pos hH]
    · have hH := hA.2 hz h51
      have hW := hB.2 hz h51
      rw [hH, hW, if_neg hz, if_neg h51]
      simp

theorem rem_true (k : Nat) (a b c : ByteArray) : gudgeonlaw05_LexRemarks.j0 (k + 1) a b c true true = some true := by
  rw [gudgeonlaw05_LexRemarks.j0, if_pos rfl]
theorem rem_at (x y c : List UInt8) (hx : x.length ≤ 2000) (hy : y.length ≤ 2000) (hc : c.length ≤ 2000) : ∀ (m i k : Nat), i ≤ c.length → c.length - i ≤ m → m + 30000 < k → (∀ j, (h : j < c.length) → j < i → s1 c[j] = true) →
    gudgeonlaw05_LexRemarks.l0 k (ba x) (ba y) (ba c) (i : Int) = some true := by
  intro m
  induction m with
  | succ m ih =>
    intro i k hi hm hk hs
    by_cases hi' : i < c.length
    · obtain ⟨k, rfl⟩ : ∃ j, k = j + 1 := ⟨k - 1, by omega⟩
      have hw : wrap64 ((i : Int) + 1) = ((i + 1 : Nat) : Int) := by rw [w64 (by omega) (by omega)]; omega
      rw [gudgeonlaw05_LexRemarks.l0, ba_size, ba_size, ba_size, if_pos (show (i : Int) < (c.length : Int) by omega), if_pos (show (0 : Int) ≤ (i : Int) by omega), bt_ba c i hi']
      by_cases h1 : (c[i].toNat : Int) < 32
      · rw [if_pos h1]
      rw [if_neg h1]
      by_cases h2 : (c[i].toNat : Int) > 126
      · rw [if_pos h2]
      rw [if_neg h2, hw]
      refine ih (i + 1) k (by omega) (by omega) (by omega) (fun j hj hji => ?_)
      by_cases e : j = i
      · subst e; exact seen _ (by omega) (by omega)
      · exact hs j hj (by omega)
    · exact ih i k hi (by omega) (by omega) hs
  | zero =>
    intro i k hi hm hk hs
    obtain ⟨k, rfl⟩ : ∃ j, k = j + 1 := ⟨k - 1, by omega⟩
    have hall : ∀ b ∈ c, s1 b = true := by
      intro b hb
      obtain ⟨j, hj, rfl⟩ := List.getElem_of_mem hb
      exact hs j hj (by omega)
    rw [gudgeonlaw05_LexRemarks.l0, ba_size, ba_size, ba_size, if_neg (show ¬ (i : Int) < (c.length : Int) by omega)]
    have e1 := Lex_is x (by omega) k (by omega)
    have e2 := Lex_is y (by omega) k (by omega)
    have l3 : (x ++ 10 :: (32 :: 59 :: (c ++ 10 :: y))).length = x.length + c.length + y.length + 4 := by simp only [List.length_append, List.length_cons]; omega
    have l4 : (32 :: 59 :: (c ++ 10 :: y)).length = c.length + y.length + 3 := by simp only [List.length_append, List.length_cons]; omega
    have e3 : lex_Lex.f k ((((ba x ++ (⟨#[10, 32, 59]⟩ : ByteArray)) ++ ba c) ++ (⟨#[10]⟩ : ByteArray)) ++ ba y) = some (lx (x.length + c.length + y.length + 5) (x ++ 10 :: (32 :: 59 :: (c ++ 10 :: y))) 0 0) := by
      have := Lex_is (x ++ 10 :: (32 :: 59 :: (c ++ 10 :: y))) (by omega) k (by omega)
      rw [l3] at this
      rw [← this]; refine congrArg (lex_Lex.f k) ?_
      have h1 := app_ba x [10, 32, 59]
      have h2 := app_ba (x ++ [10, 32, 59]) c
      have h3 := app_ba (x ++ [10, 32, 59] ++ c) [10]
      have h4 := app_ba (x ++ [10, 32, 59] ++ c ++ [10]) y
      rw [← h3, ← h2, ← h1] at h4
      refine h4.trans ?_
      simp
    have e1' : lex_Lex.f k (ba x) = some (lx (x.length + 1) x 0 0) := e1
    rw [e1, Option.bind_some]
    by_cases hz : (lx (x.length + 1) x 0 0).2.1 = 0
    · have hA := (lx_app (32 :: 59 :: (c ++ 10 :: y)) (c.length + y.length + 4) (by omega) (x.length + 1) (x.length + c.length + y.length + 5) x 0 0 (by omega) (by omega) (by omega)).1 hz
      have hsk : sk false (32 :: 59 :: (c ++ 10 :: y)) = ((sk false y).1 + (c.length + 3), (sk false y).2) := by
        have := sk_remark y c hall
        simp only [sk, bk32, bk59, if_true, Bool.false_eq_true, if_false, this, Prod.mk.injEq, and_true]
        omega
      have hM : ∀ n a, lx (c.length + y.length + 4) (32 :: 59 :: (c ++ 10 :: y)) n a = lx (y.length + 1) y n (a + (c.length + 3)) := by
        intro n a
        have := lx_merge (32 :: 59 :: (c ++ [10])) y (c.length + y.length + 3) n a (by
          have e : (32 :: 59 :: (c ++ [10])) ++ y = 32 :: 59 :: (c ++ 10 :: y) := by simp
          rw [e, hsk]; simp)
        have e : (32 :: 59 :: (c ++ [10])) ++ y = 32 :: 59 :: (c ++ 10 :: y) := by simp
        rw [e] at this
        rw [this, lx_fuel _ (y.length + 1) y _ _ (by omega) (by omega) (by omega)]
        simp
      rw [hM] at hA
      have hgx := lx_good (x.length + 1) x 0 0 (by omega)
      have hgy := lx_good (y.length + 1) y 0 0 (by omega)
      have hS := lx_shift (y.length + 1) y 0 0 (0 + (lx (x.length + 1) x 0 0).1.length) (0 + x.length + 1 + (c.length + 3)) (by omega) (by omega) (by omega)
      rw [if_pos hz, e2, Option.bind_some, if_pos (show x.length + 3 ≤ 9223372036854775807 by omega), if_pos (show x.length + 3 + c.length ≤ 9223372036854775807 by omega), if_pos (show x.length + 3 + c.length + 1 ≤ 9223372036854775807 by omega), if_pos (show x.length + 3 + c.length + 1 + y.length ≤ 9223372036854775807 by omega), e3, Option.bind_some]
      generalize lx (y.length + 1) y _ (0 + x.length + 1 + (c.length + 3)) = R at *
      generalize lx (x.length + 1) x 0 0 = E at *
      generalize lx (y.length + 1) y 0 0 = Y at *
      generalize lx (x.length + c.length + y.length + 5) _ 0 0 = W at *
      have hW1 : W.1 = E.1 ++ R.1 := by rw [hA]
      have hW2 : W.2.1 = R.2.1 := by rw [hA]
      rw [if_pos (by simp only [List.length_nil]; omega), Option.bind_some, List.nil_append, if_pos (by omega), hW1, Same_is (E.1 ++ Y.1) (E.1 ++ R.1) false (by rw [List.length_append]; omega) (by rw [List.map_append, List.map_append, hS.1]) (fun z => by cases z) k (by rw [List.length_append]; omega), Option.bind_some, if_pos rfl, hW2, hS.2]
      simp
    · rw [if_neg hz]
theorem remarks (x y c : List UInt8) (K : Nat) (hK : 40000 ≤ K) : gudgeonlaw05_LexRemarks.f (K + 1) (ba x) (ba y) (ba c) = some true := by
  unfold gudgeonlaw05_LexRemarks.f
  rw [awake_is (K + 1) (by omega), Option.bind_some, if_pos rfl, ba_size, ba_size, ba_size]
  by_cases hx : (x.length : Int) > 2000
  · rw [if_pos hx]; exact rem_true _ _ _ _
  rw [if_neg hx]
  by_cases hy : (y.length : Int) > 2000
  · rw [if_pos hy]; exact rem_true _ _ _ _
  rw [if_neg hy]
  by_cases hc : (c.length : Int) > 2000
  · rw [decide_eq_true hc]; exact rem_true _ _ _ _
  rw [decide_eq_false hc, gudgeonlaw05_LexRemarks.j0, if_neg (by decide)]
  exact rem_at x y c (by omega) (by omega) (by omega) c.length 0 K (by omega) (by omega) (by omega) (fun j _ h => by omega)
theorem LexRemarks : gudgeonlaw05_LexRemarks.Pure := fun a b c _ _ _ => ⟨_, remarks a.data.toList b.data.toList c.data.toList 40000 (by omega)⟩
theorem LexHeads : gudgeonlaw05_LexHeads.Pure := fun a b _ _ => ⟨_, heads a.data.toList b.data.toList 40000 (by omega)⟩
end Go.Proofs.Ytnpmmhceiaedcaa.X
