import Derived.Test.YtnpmmhceiaedcaaDoorLexG
import Derived.Test.YtnpmmhceiaedcaaDoorPAx5
import Derived.Test.YtnpmmhceiaedcaaDoorPAx6
import Derived.Test.YtnpmmhceiaedcaaDoorPAx7
import Derived.Test.YtnpmmhceiaedcaaDoorPAx8
import Derived.Laws.Strings
import Derived.Lib.ReplaceLaws
/- lex: what Show and joined compute; the laws LexAgain and LexBack, in plain Lean. -/
namespace Go.Proofs.YtnpmmhceiaedcaaDoor.X
open Go.RowKit Go.Proofs.YtnpmmhceiaedcaaDoor.H Go.Proofs.YtnpmmhceiaedcaaDoor.PA Go.Proofs.YtnpmmhceiaedcaaDoorW.PrintWords Go.Proofs.YtnpmmhceiaedcaaDoorW.PrintLast Go.Proofs.YtnpmmhceiaedcaaDoorW.PrintMore
set_option linter.unusedVariables false
set_option linter.unusedSimpArgs false

theorem awake_is (k : Nat) (hk : 100 ≤ k) : gudgeonlaw05_awake.f k = some true := by
  have e1 := Lex_is [40, 97, 115, 115, 101, 114, 116, 32, 40, 61, 32, 120, 32, 34, 97, 34, 34, 98, 34, 41, 41, 32, 59, 32, 116, 104, 97, 116] (by decide) k (by simp only [List.length_cons, List.length_nil]; omega)
  have e2 := Lex_is [40, 120, 32, 34, 97, 98] (by decide) k (by simp only [List.length_cons, List.length_nil]; omega)
  have e3 := Lex_is [48, 48, 55] (by decide) k (by simp only [List.length_cons, List.length_nil]; omega)
  have f1 : (lx 29 [40, 97, 115, 115, 101, 114, 116, 32, 40, 61, 32, 120, 32, 34, 97, 34, 34, 98, 34, 41, 41, 32, 59, 32, 116, 104, 97, 116] 0 0).2.1 = 0 ∧ (lx 29 [40, 97, 115, 115, 101, 114, 116, 32, 40, 61, 32, 120, 32, 34, 97, 34, 34, 98, 34, 41, 41, 32, 59, 32, 116, 104, 97, 116] 0 0).2.2 = 28 ∧ (lx 29 [40, 97, 115, 115, 101, 114, 116, 32, 40, 61, 32, 120, 32, 34, 97, 34, 34, 98, 34, 41, 41, 32, 59, 32, 116, 104, 97, 116] 0 0).1.length = 8 ∧ ((rd_T23 (lx 29 [40, 97, 115, 115, 101, 114, 116, 32, 40, 61, 32, 120, 32, 34, 97, 34, 34, 98, 34, 41, 41, 32, 59, 32, 116, 104, 97, 116] 0 0).1 5).f1).data.toList = [97, 34, 98] :=
    ⟨by kernel_rfl, by kernel_rfl, by kernel_rfl, by kernel_rfl⟩
  have f2 : (lx 7 [40, 120, 32, 34, 97, 98] 0 0).2.1 = 51 ∧ (lx 7 [40, 120, 32, 34, 97, 98] 0 0).2.2 = 3 ∧ (lx 7 [40, 120, 32, 34, 97, 98] 0 0).1.length = 2 := ⟨by kernel_rfl, by kernel_rfl, by kernel_rfl⟩
  have f3 : (lx 4 [48, 48, 55] 0 0).2.1 = 8 := by kernel_rfl
  simp only [List.length_cons, List.length_nil, Nat.zero_add, Nat.reduceAdd] at e1 e2 e3
  generalize lx 29 _ 0 0 = A at e1 f1
  generalize lx 7 _ 0 0 = B at e2 f2
  generalize lx 4 _ 0 0 = C at e3 f3
  unfold gudgeonlaw05_awake.f
  rw [e1, Option.bind_some, e2, Option.bind_some, e3, Option.bind_some, if_pos f1.1, if_pos f1.2.1, if_pos (show (A.1.length : Int) = 8 by omega), if_pos (show 5 < (A.1.length : Int) by omega), ByteArray.toList_eq, if_pos f1.2.2.2, if_pos f2.1, if_pos f2.2.1, if_pos (show (B.1.length : Int) = 2 by omega), f3]
  rfl
theorem rd_at (l : List S23) (i : Nat) (h : i < l.length) : rd_T23 l (i : Int) = l[i] := by
  unfold rd_T23; rw [Int.toNat_natCast, List.getD_eq_getElem?_getD, List.getElem?_eq_getElem h]; rfl
theorem Same_at (l1 l2 : List S23) (p : Bool) (hb : l1.length ≤ 100000) (h : l1.map key = l2.map key) (hp : p = true → l1 = l2) : ∀ (m i k : Nat), i ≤ l1.length → l1.length - i ≤ m → m < k →
    gudgeonref05_Same.l0 k l1 l2 p (i : Int) = some true := by
  have hl : l1.length = l2.length := by have := congrArg List.length h; simpa using this
  intro m
  induction m with
  | zero =>
    intro i k hi hm hk
    obtain ⟨k, rfl⟩ : ∃ j, k = j + 1 := ⟨k - 1, by omega⟩
    rw [gudgeonref05_Same.l0, if_neg (by omega)]
  | succ m ih =>
    intro i k hi hm hk
    obtain ⟨k, rfl⟩ : ∃ j, k = j + 1 := ⟨k - 1, by omega⟩
    by_cases hi' : i < l1.length
    · have hi2 : i < l2.length := by omega
      have ek : key l1[i] = key l2[i] := by
        have e : (l1.map key)[i]? = (l2.map key)[i]? := by rw [h]
        rw [List.getElem?_map, List.getElem?_map, List.getElem?_eq_getElem hi', List.getElem?_eq_getElem hi2] at e
        exact Option.some.inj e
      have ek1 : l1[i].f0 = l2[i].f0 := congrArg Prod.fst ek
      have ek2 : l1[i].f1 = l2[i].f1 := congrArg Prod.snd ek
      have hw : wrap64 ((i : Int) + 1) = ((i + 1 : Nat) : Int) := by rw [w64 (by omega) (by omega)]; omega
      rw [gudgeonref05_Same.l0, if_pos (show (i : Int) < (l1.length : Int) by omega), if_pos (show (0 : Int) ≤ (i : Int) by omega), if_pos (show (i : Int) < (l2.length : Int) by omega), rd_at l1 i hi', rd_at l2 i hi2, if_pos ek1, ek2, if_pos rfl, hw]
      have := ih (i + 1) k (by omega) (by omega) (by omega)
      by_cases hpt : p = true
      · have e := hp hpt
        rw [if_pos hpt, if_pos (by subst e; rfl), this]
      · rw [if_neg hpt, this]
    · rw [gudgeonref05_Same.l0, if_neg (by omega)]
theorem Same_is (l1 l2 : List S23) (p : Bool) (hb : l1.length ≤ 100000) (h : l1.map key = l2.map key) (hp : p = true → l1 = l2) (k : Nat) (hk : l1.length < k) : gudgeonref05_Same.f k l1 l2 p = some true := by
  have hl : l1.length = l2.length := by have := congrArg List.length h; simpa using this
  unfold gudgeonref05_Same.f
  rw [if_pos (by omega)]
  exact Same_at l1 l2 p hb h hp l1.length 0 k (by omega) (by omega) hk

/-- Replacing quotes by two. -/
theorem index34 (l : List UInt8) : Lib.index l [34] = Lib.indexByte l 34 := by
  induction l with
  | nil => rfl
  | cons c r ih =>
    simp only [Lib.index, Lib.indexByte, List.isPrefixOf, ih, Bool.and_true]
    by_cases h : c = 34
    · subst h; rfl
    · have h1 : (34 == c) = false := by simpa using fun z : (34 : UInt8) = c => h z.symm
      have h2 : (c == 34) = false := by simpa using h
      rw [h1, h2]
theorem dbl_no : ∀ (l : List UInt8), Lib.indexByte l 34 = -1 → dbl l = l
  | [], _ => rfl
  | c :: r, h => by
    have hg := Lib.indexByte_ge r 34
    simp only [Lib.indexByte] at h
    by_cases h34 : c = 34
    · subst h34; simp at h
    · have h2 : (c == 34) = false := by simpa using h34
      rw [h2] at h
      have h3 : Lib.indexByte r 34 = -1 := by
        by_cases z : Lib.indexByte r 34 = -1
        · exact z
        · rw [if_neg (by decide), if_neg (by simpa using z)] at h; omega
      simp only [dbl, if_neg h34, dbl_no r h3]
theorem dbl_at : ∀ (l : List UInt8) (i : Nat), Lib.indexByte l 34 = i → dbl l = l.take i ++ [34, 34] ++ dbl (l.drop (i + 1)) ∧ i < l.length
  | [], i, h => by simp [Lib.indexByte] at h
  | c :: r, i, h => by
    simp only [Lib.indexByte] at h
    by_cases h34 : c = 34
    · subst h34
      simp at h
      obtain rfl : i = 0 := by omega
      simp [dbl]
    · have h2 : (c == 34) = false := by simpa using h34
      rw [h2, if_neg (by decide)] at h
      by_cases z : Lib.indexByte r 34 = -1
      · rw [if_pos (by simpa using z)] at h; omega
      · rw [if_neg (by simpa using z)] at h
        have hg := Lib.indexByte_ge r 34
        obtain ⟨j, rfl⟩ : ∃ j, i = j + 1 := ⟨i - 1, by omega⟩
        have := dbl_at r j (by omega)
        simp only [dbl, if_neg h34, List.take_succ_cons, List.drop_succ_cons, List.cons_append, List.length_cons]
        rw [this.1]
        exact ⟨by simp, by omega⟩
theorem repl_is : ∀ (k : Nat) (l : List UInt8), Lib.countByte l 34 ≤ k → Lib.replaceK [34] [34, 34] k l = dbl l := by
  intro k
  induction k with
  | zero =>
    intro l h
    have : ∀ l : List UInt8, Lib.countByte l 34 ≤ 0 → dbl l = l := by
      intro l
      induction l with
      | nil => intro _; rfl
      | cons c r ih =>
        intro h
        simp only [Lib.countByte, List.count_cons] at h
        have h34 : ¬ c = 34 := by rintro rfl; simp at h
        simp only [dbl, if_neg h34]
        rw [ih (by simp only [Lib.countByte]; omega)]
    rw [Lib.replaceK, this l h]
  | succ k ih =>
    intro l h
    rw [Lib.replaceK, index34]
    by_cases z : Lib.indexByte l 34 = -1
    · rw [if_pos (by simpa using z), dbl_no l z]
    · rw [if_neg (by simpa using z)]
      have hg := Lib.indexByte_ge l 34
      obtain ⟨i, hi⟩ : ∃ i : Nat, Lib.indexByte l 34 = i := ⟨(Lib.indexByte l 34).toNat, by omega⟩
      obtain ⟨e, hl⟩ := dbl_at l i hi
      rw [hi, Int.toNat_natCast, e]
      congr 1
      refine ih _ ?_
      have hs := (Lib.indexByte_some hi).1
      have : Lib.countByte l 34 = Lib.countByte (l.take i) 34 + Lib.countByte (l.drop i) 34 := by
        simp only [Lib.countByte]; rw [← List.count_append, List.take_append_drop]
      rw [List.drop_eq_getElem_cons hl] at this
      rw [List.getElem?_eq_getElem hl] at hs
      have hs := Option.some.inj hs
      rw [hs] at this
      simp only [Lib.countByte, List.count_cons_self, List.length_singleton] at this h ⊢
      omega
theorem countFrom34 : ∀ (k : Nat) (l : List UInt8), l.length < k → Lib.countFrom [34] k l = Lib.countByte l 34 := by
  intro k
  induction k with
  | zero => intro l h; omega
  | succ k ih =>
    intro l h
    rw [Lib.countFrom, index34]
    by_cases z : Lib.indexByte l 34 = -1
    · rw [if_pos (by simpa using z)]
      simp only [Lib.countByte]
      symm; rw [List.count_eq_zero]
      intro hm
      obtain ⟨j, hj, e⟩ := List.getElem_of_mem hm
      exact Lib.indexByte_none z j (by rw [List.getElem?_eq_getElem hj, e])
    · rw [if_neg (by simpa using z)]
      have hg := Lib.indexByte_ge l 34
      obtain ⟨i, hi⟩ : ∃ i : Nat, Lib.indexByte l 34 = i := ⟨(Lib.indexByte l 34).toNat, by omega⟩
      obtain ⟨e, hl⟩ := dbl_at l i hi
      obtain ⟨hs, hn⟩ := Lib.indexByte_some hi
      rw [hi, Int.toNat_natCast]
      rw [ih _ (by rw [List.length_drop]; simp only [List.length_singleton]; omega)]
      have : Lib.countByte l 34 = Lib.countByte (l.take i) 34 + Lib.countByte (l.drop i) 34 := by
        simp only [Lib.countByte]; rw [← List.count_append, List.take_append_drop]
      rw [List.drop_eq_getElem_cons hl] at this
      rw [List.getElem?_eq_getElem hl] at hs
      have hs := Option.some.inj hs
      rw [hs] at this
      have h0 : List.count 34 (l.take i) = 0 := by
        rw [List.count_eq_zero]
        intro hm
        obtain ⟨j, hj, e⟩ := List.getElem_of_mem hm
        rw [List.length_take] at hj
        refine hn j (by omega) ?_
        rw [List.getElem_take] at e
        rw [List.getElem?_eq_getElem (by omega), e]
      simp only [Lib.countByte, List.count_cons_self, List.length_singleton, h0] at this ⊢
      omega
theorem ReplaceAll_is (t : List UInt8) (h : t.length ≤ 1000000) : strings_ReplaceAll.f (ba t) (⟨#[34]⟩ : ByteArray) (⟨#[34, 34]⟩ : ByteArray) = some (ba (dbl t)) := by
  unfold strings_ReplaceAll.f
  rw [if_pos ⟨h, by decide, by decide⟩]
  show some _ = _
  congr 2
  have e : Lib.replaceAll t [34] [34, 34] = dbl t := by
    unfold Lib.replaceAll Lib.replace
    rw [if_neg (by decide)]
    refine repl_is _ t ?_
    unfold Lib.replaceNum Lib.count
    rw [if_pos (.inl (by decide)), countFrom34 _ _ (by omega)]
    exact Nat.le_refl _
  exact congrArg List.toArray e

theorem Simple_is (t : List UInt8) (h : t.length ≤ 140737488351232) : lex_Simple.f (ba t) = some (simpl t) := by
  unfold lex_Simple.f
  rw [ByteArray.toList_eq]
  cases t with
  | nil => rw [if_pos rfl]; rfl
  | cons c r =>
    rw [if_neg (show ¬ (c :: r) = [] by simp), ba_size, if_pos (by simp only [List.length_cons]; omega), show bt (ba (c :: r)) 0 = (c.toNat : Int) from bt_ba (c :: r) 0 (by simp), dg_is, Option.bind_some, F14 _ h]
    simp only [Option.bind_some, simpl]
    by_cases hd : dg c = true
    · rw [if_pos hd, hd]; rfl
    · rw [if_neg hd]
      have : dg c = false := by simpa using hd
      rw [this]
      simp only [Bool.not_false, Bool.true_and, Option.some.injEq]
      by_cases z : sp nm (c :: r) = (c :: r).length
      · rw [z]; simp
      · have z1 : (((sp nm (c :: r) : Nat) : Int) == (((c :: r).length : Nat) : Int)) = false := by simpa using fun y : ((sp nm (c :: r) : Nat) : Int) = (((c :: r).length : Nat) : Int) => z (by omega)
        have z2 : (sp nm (c :: r) == (c :: r).length) = false := by simpa using z
        rw [z1, z2]
def showB (L : List S23 × Int × Int) (W t : ByteArray) (kd : Int) : Option (ByteArray × Int) :=
  if L.2.1 = 0 then (if (L.1.length : Int) = 1 then (if 0 < (L.1.length : Int) then (if ((rd_T23 L.1 0).f0) = kd then (if ((rd_T23 L.1 0).f1).toList = t.toList then (some (W, 0)) else (some ((⟨#[]⟩ : ByteArray), 1))) else (some ((⟨#[]⟩ : ByteArray), 1))) else (none)) else (some ((⟨#[]⟩ : ByteArray), 1))) else (some ((⟨#[]⟩ : ByteArray), 1))
theorem showB_is (kd : Int) (t w : List UInt8) (hw : w = TokW kd t) (hl : w.length ≤ 16384) :
    (Own kd t w → showB (lx (w.length + 1) w 0 0) (ba w) (ba t) kd = some (ba w, 0)) ∧ (¬ Own kd t w → showB (lx (w.length + 1) w 0 0) (ba w) (ba t) kd = some (⟨#[]⟩, 1)) := by
  subst hw
  constructor
  · intro h
    rw [h.lx _ 0 0 (by omega) (by decide)]
    unfold showB
    rw [if_pos (by rfl), if_pos (by simp), if_pos (by simp), if_pos (by rfl), if_pos (by rfl)]
  · intro h
    have key' : ∀ L : List S23 × Int × Int, L.1.map key ≠ [(kd, ba t)] → showB L (ba (TokW kd t)) (ba t) kd = some (⟨#[]⟩, 1) := by
      intro L hL
      unfold showB
      by_cases h1 : L.2.1 = 0
      · rw [if_pos h1]
        by_cases h2 : (L.1.length : Int) = 1
        · rw [if_pos h2, if_pos (by omega)]
          obtain ⟨x, hx⟩ : ∃ x, L.1 = [x] := by
            cases e : L.1 with
            | nil => rw [e] at h2; simp at h2
            | cons a b => cases b with
              | nil => exact ⟨a, rfl⟩
              | cons c d => rw [e] at h2; simp at h2; omega
          rw [hx] at hL ⊢
          have e0 : rd_T23 [x] 0 = x := rfl
          rw [e0]
          by_cases h3 : x.f0 = kd
          · rw [if_pos h3]
            by_cases h4 : x.f1.toList = (ba t).toList
            · exfalso; apply hL
              rw [ByteArray.toList_eq, ByteArray.toList_eq] at h4
              have : x.f1 = ba t := by
                apply ByteArray.ext; exact Array.toList_inj.1 h4
              simp [key, h3, this]
            · rw [if_neg h4]
          · rw [if_neg h3]
        · rw [if_neg h2]
      · rw [if_neg h1]
    exact key' _ (fun z => h (own_of_lx kd t _ 0 0 (by omega) z))
theorem dbl_len2 {kd : Int} (t : List UInt8) : (TokW kd t).length ≤ 2 * t.length + 2 ∧ t.length ≤ (TokW kd t).length := by
  have := dbl_len t
  unfold TokW; split
  · simp only [List.length_cons, List.length_append, List.length_nil]; omega
  · split
    · simp only [List.length_cons, List.length_append, List.length_nil]; omega
    · omega
/-- What Show tells. -/
theorem Show_is (kd at' : Int) (t : List UInt8) (ht : t.length ≤ 8000) (k : Nat) (hk : 40000 ≤ k) :
    (Own kd t (TokW kd t) → lex_Show.f k kd (ba t) at' = some (ba (TokW kd t), 0)) ∧ (¬ Own kd t (TokW kd t) → lex_Show.f k kd (ba t) at' = some (⟨#[]⟩, 1)) := by
  have hW := dbl_len2 (kd := kd) t
  have hd := dbl_len t
  obtain ⟨k, rfl⟩ : ∃ j, k = j + 1 := ⟨k - 1, by omega⟩
  have main : lex_Show.f (k + 1) kd (ba t) at' = showB (lx ((TokW kd t).length + 1) (TokW kd t) 0 0) (ba (TokW kd t)) (ba t) kd := by
    unfold lex_Show.f
    have hL := Lex_is (TokW kd t) (by omega) k (by omega)
    by_cases h3 : kd = 3
    · rw [if_pos h3, Simple_is t (by omega), Option.bind_some, lex_Show.j0]
      by_cases hs : simpl t = true
      · rw [hs, if_neg (by decide), if_neg (by omega)]
        have e : TokW kd t = t := by unfold TokW; rw [if_neg (by rw [hs]; exact fun z => absurd z.2 (by decide)), if_neg (by omega)]
        rw [e] at hL ⊢
        rw [hL]; rfl
      · have hs' : simpl t = false := by simpa using hs
        have e : TokW kd t = 124 :: (t ++ [124]) := by unfold TokW; rw [if_pos ⟨h3, hs'⟩]
        have e2 : ((⟨#[124]⟩ : ByteArray) ++ ba t) ++ (⟨#[124]⟩ : ByteArray) = ba (TokW kd t) := by
          have h1 := app_ba [124] t
          have h2 := app_ba ([124] ++ t) [124]
          rw [← h1] at h2
          rw [e]; exact h2
        rw [hs', if_pos (by decide), if_pos (by rw [ba_size]; omega), if_pos (by rw [ba_size]; omega), e2, hL]; rfl
    · rw [if_neg h3, lex_Show.j0, if_neg (by decide)]
      by_cases h6 : kd = 6
      · have e : TokW kd t = 34 :: (dbl t ++ [34]) := by unfold TokW; rw [if_neg (fun z => h3 z.1), if_pos h6]
        have e2 : ((⟨#[34]⟩ : ByteArray) ++ ba (dbl t)) ++ (⟨#[34]⟩ : ByteArray) = ba (TokW kd t) := by
          have h1 := app_ba [34] (dbl t)
          have h2 := app_ba ([34] ++ dbl t) [34]
          rw [← h1] at h2
          rw [e]; exact h2
        rw [if_pos h6, ReplaceAll_is t (by omega), Option.bind_some, if_pos (by rw [ba_size]; omega), if_pos (by rw [ba_size]; omega), e2, hL]; rfl
      · have e : TokW kd t = t := by unfold TokW; rw [if_neg (fun z => h3 z.1), if_neg h6]
        rw [if_neg h6]
        rw [e] at hL ⊢
        rw [hL]; rfl
  rw [main]
  exact showB_is kd t _ rfl (by omega)
/-- Kind and text, the text as bytes. -/
abbrev kt (t : S23) : Int × List UInt8 := (t.f0, t.f1.data.toList)
def OwnT (t : S23) : Prop := Own t.f0 t.f1.data.toList (TokW t.f0 t.f1.data.toList)
theorem joined_at (X : List S23) (b : UInt8) (hn : X.length ≤ 4000) (hX : ∀ t ∈ X, t.f1.data.toList.length ≤ 8000) : ∀ (m i k : Nat) (s : List UInt8), i ≤ X.length → X.length - i ≤ m → m + 40000 ≤ k → s.length ≤ 100000 * i →
    ((∀ t ∈ X.drop i, OwnT t) → gudgeonlaw05_joined.l0 k X (b.toNat : Int) (ba s) (i : Int) = some (ba (s ++ J b ((X.drop i).map kt)), true)) ∧ ((¬ ∀ t ∈ X.drop i, OwnT t) → gudgeonlaw05_joined.l0 k X (b.toNat : Int) (ba s) (i : Int) = some (⟨#[]⟩, false)) := by
  intro m
  induction m with
  | zero =>
    intro i k s hi hm hk hs
    obtain ⟨k, rfl⟩ : ∃ j, k = j + 1 := ⟨k - 1, by omega⟩
    rw [List.drop_eq_nil_of_le (by omega)]
    refine ⟨fun _ => ?_, fun z => absurd (by simp) z⟩
    rw [gudgeonlaw05_joined.l0, if_neg (by omega)]; simp [J]
  | succ m ih =>
    intro i k s hi hm hk hs
    by_cases hi' : i < X.length
    · obtain ⟨k, rfl⟩ : ∃ j, k = j + 1 := ⟨k - 1, by omega⟩
      have hw : wrap64 ((i : Int) + 1) = ((i + 1 : Nat) : Int) := by rw [w64 (by omega) (by omega)]; omega
      have hx := hX X[i] (List.getElem_mem hi')
      have hS := Show_is X[i].f0 X[i].f2 X[i].f1.data.toList hx k (by omega)
      have hW := dbl_len2 (kd := X[i].f0) X[i].f1.data.toList
      rw [gudgeonlaw05_joined.l0, if_pos (show (i : Int) < (X.length : Int) by omega), if_pos (show (0 : Int) ≤ (i : Int) by omega), rd_at X i hi', hw, List.drop_eq_getElem_cons hi']
      rw [of_ba X[i].f1]
      by_cases ho : OwnT X[i]
      · rw [hS.1 ho, Option.bind_some]
        have e1 : strOfNums [(b.toNat : Int)] = ba [b] := by
          apply ByteArray.ext
          simp [strOfNums]
        rw [if_pos rfl, Option.bind_some, e1]
        simp only [ba_size]
        have e2 : (ba s ++ ba (TokW X[i].f0 X[i].f1.data.toList)) ++ ba [b] = ba (s ++ TokW X[i].f0 X[i].f1.data.toList ++ [b]) := by rw [app_ba, app_ba]
        rw [if_pos (by omega), if_pos (by simp only [List.length_singleton]; omega), e2]
        have := ih (i + 1) k (s ++ TokW X[i].f0 X[i].f1.data.toList ++ [b]) (by omega) (by omega) (by omega) (by simp only [List.length_append, List.length_singleton]; omega)
        refine ⟨fun z => ?_, fun z => this.2 (fun y => z ?_)⟩
        · rw [this.1 (fun t ht => z t (List.mem_cons_of_mem _ ht))]
          simp only [List.map_cons, J, List.append_assoc, List.singleton_append]
        · intro t ht
          rcases List.mem_cons.1 ht with rfl | ht
          · exact ho
          · exact y t ht
      · rw [hS.2 ho, Option.bind_some]
        rw [if_neg (by decide)]
        exact ⟨fun z => absurd (z _ List.mem_cons_self) ho, fun _ => rfl⟩
    · exact ih i k s hi (by omega) (by omega) hs
theorem joined_is (X : List S23) (b : UInt8) (hn : X.length ≤ 4000) (hX : ∀ t ∈ X, t.f1.data.toList.length ≤ 8000) (k : Nat) (hk : 50000 ≤ k) :
    ((∀ t ∈ X, OwnT t) → gudgeonlaw05_joined.f k X (b.toNat : Int) = some (ba (J b (X.map kt)), true)) ∧ ((¬ ∀ t ∈ X, OwnT t) → gudgeonlaw05_joined.f k X (b.toNat : Int) = some (⟨#[]⟩, false)) := by
  have := joined_at X b hn hX X.length 0 k [] (by omega) (by omega) (by omega) (by simp)
  rw [List.drop_zero] at this
  unfold gudgeonlaw05_joined.f
  simpa using this
theorem map_kt (X : List S23) : (X.map kt).map (fun p => (p.1, ba p.2)) = X.map key := by
  rw [List.map_map]; rfl
theorem J_len (b : UInt8) : ∀ ts : List (Int × List UInt8), (J b ts).length = (ts.map (fun p => (TokW p.1 p.2).length)).sum + ts.length
  | [] => rfl
  | p :: r => by simp only [J, List.length_append, List.length_cons, J_len b r, List.map_cons, List.sum_cons]; omega
theorem le_sum {l : List Nat} {x : Nat} (h : x ∈ l) : x ≤ l.sum := by
  induction l with
  | nil => cases h
  | cons a r ih =>
    rcases List.mem_cons.1 h with rfl | h
    · simp
    · have := ih h; simp only [List.sum_cons]; omega

theorem again_true (k : Nat) (a : ByteArray) : gudgeonlaw05_LexAgain.j0 (k + 1) a true true = some true := by
  rw [gudgeonlaw05_LexAgain.j0, if_pos rfl]
theorem again (x : List UInt8) (K : Nat) (hK : 60000 ≤ K) : gudgeonlaw05_LexAgain.f (K + 1) (ba x) = some true := by
  unfold gudgeonlaw05_LexAgain.f
  rw [awake_is (K + 1) (by omega), Option.bind_some, if_pos rfl, ba_size]
  by_cases hx : (x.length : Int) > 4000
  · rw [decide_eq_true hx]; exact again_true _ _
  rw [decide_eq_false hx, gudgeonlaw05_LexAgain.j0, if_neg (by decide), Lex_is x (by omega) K (by omega), Option.bind_some]
  have hg := lx_good (x.length + 1) x 0 0 (by omega)
  have ho := lx_own (x.length + 1) x 0 0 (by omega) (by omega)
  generalize lx (x.length + 1) x 0 0 = L at *
  have hlen : ∀ t ∈ L.1, t.f1.data.toList.length ≤ 8000 := by
    intro t ht
    have h1 := le_sum (List.mem_map_of_mem (f := fun t : S23 => (TokW t.f0 t.f1.data.toList).length) ht)
    have h2 := dbl_len2 (kd := t.f0) t.f1.data.toList
    have h3 := ho.2.1
    have h1 : (TokW t.f0 t.f1.data.toList).length ≤ _ := h1
    omega
  have hj := (joined_is L.1 32 (by omega) hlen K (by omega)).1 ho.1
  rw [show (((32 : UInt8).toNat : Nat) : Int) = 32 from rfl] at hj
  rw [hj, Option.bind_some]
  have hJ := J_len 32 (L.1.map kt)
  rw [List.map_map, List.length_map] at hJ
  have e1 : ((fun p : Int × List UInt8 => (TokW p.1 p.2).length) ∘ kt) = (fun t : S23 => (TokW t.f0 t.f1.data.toList).length) := rfl
  rw [e1] at hJ
  have h3 := ho.2.1
  have hl := lx_J 32 nm32 (by decide) bk32 (L.1.map kt) ((J 32 (L.1.map kt)).length + 1) 0 0 (by
    intro p hp
    obtain ⟨t, ht, rfl⟩ := List.mem_map.1 hp
    exact ho.1 t ht) (by omega) (by omega) (by rw [List.length_map]; omega)
  rw [map_kt] at hl
  rw [Lex_is _ (by omega) K (by omega), Option.bind_some, Same_is L.1 _ false (by omega) hl.1.symm (fun z => by cases z) K (by omega), Option.bind_some, if_pos rfl, if_pos rfl, hl.2.1]
  rfl

theorem back_j2 (X : List S23) (b : UInt8) (hb : nm b = false) (h34 : b ≠ 34) (hbk : bk b = true) (hn : X.length ≤ 100) (hX : ∀ t ∈ X, t.f1.size ≤ 60) (k : Nat) (hk : 60000 ≤ k) : gudgeonlaw05_LexBack.j2 (k + 1) X (b.toNat : Int) = some true := by
  have hX' : ∀ t ∈ X, t.f1.data.toList.length ≤ 60 := fun t ht => hX t ht
  have hj := joined_is X b (by omega) (fun t ht => by have := hX' t ht; omega) k (by omega)
  rw [gudgeonlaw05_LexBack.j2]
  by_cases ho : ∀ t ∈ X, OwnT t
  · rw [hj.1 ho, Option.bind_some, if_pos rfl]
    have hsum : ∀ l : List S23, (∀ t ∈ l, t.f1.data.toList.length ≤ 60) → (l.map (fun t : S23 => (TokW t.f0 t.f1.data.toList).length)).sum ≤ 122 * l.length := by
      intro l
      induction l with
      | nil => intro _; simp
      | cons a r ih =>
        intro h
        have h1 := ih (fun t ht => h t (List.mem_cons_of_mem _ ht))
        have h2 := h a List.mem_cons_self
        have h3 := dbl_len2 (kd := a.f0) a.f1.data.toList
        simp only [List.map_cons, List.sum_cons, List.length_cons]; omega
    have h3 := hsum X hX'
    have hJ := J_len b (X.map kt)
    rw [List.map_map, List.length_map] at hJ
    have e1 : ((fun p : Int × List UInt8 => (TokW p.1 p.2).length) ∘ kt) = (fun t : S23 => (TokW t.f0 t.f1.data.toList).length) := rfl
    rw [e1] at hJ
    have hl := lx_J b hb h34 hbk (X.map kt) ((J b (X.map kt)).length + 1) 0 0 (by
      intro p hp
      obtain ⟨t, ht, rfl⟩ := List.mem_map.1 hp
      exact ho t ht) (by omega) (by omega) (by rw [List.length_map]; omega)
    rw [map_kt] at hl
    rw [Lex_is _ (by omega) k (by omega), Option.bind_some, Same_is X _ false (by omega) hl.1.symm (fun z => by cases z) k (by omega), Option.bind_some, if_pos rfl, if_pos hl.2.1, hl.2.2, ba_size]
    simp
  · rw [hj.2 ho, Option.bind_some]
    rw [if_neg (by decide)]
theorem back_at (X : List S23) (line : Bool) (hn : X.length ≤ 100) : ∀ (m i k : Nat), i ≤ X.length → X.length - i ≤ m → m + 60010 ≤ k → (∀ j, (h : j < X.length) → j < i → X[j].f1.size ≤ 60) → gudgeonlaw05_LexBack.l0 k X line (i : Int) = some true := by
  intro m
  induction m with
  | zero =>
    intro i k hi hm hk hs
    obtain ⟨k, rfl⟩ : ∃ j, k = j + 1 := ⟨k - 1, by omega⟩
    obtain ⟨k, rfl⟩ : ∃ j, k = j + 1 := ⟨k - 1, by omega⟩
    have hX : ∀ t ∈ X, t.f1.size ≤ 60 := by
      intro t ht
      obtain ⟨j, hj, rfl⟩ := List.getElem_of_mem ht
      exact hs j hj (by omega)
    rw [gudgeonlaw05_LexBack.l0, if_neg (by omega)]
    have h1 := back_j2 X 10 nm10 (by decide) bk10 hn hX k (by omega)
    have h2 := back_j2 X 32 nm32 (by decide) bk32 hn hX k (by omega)
    rw [show (((10 : UInt8).toNat : Nat) : Int) = 10 from rfl] at h1
    rw [show (((32 : UInt8).toNat : Nat) : Int) = 32 from rfl] at h2
    rw [h1, h2]; split <;> rfl
  | succ m ih =>
    intro i k hi hm hk hs
    by_cases hi' : i < X.length
    · obtain ⟨k, rfl⟩ : ∃ j, k = j + 1 := ⟨k - 1, by omega⟩
      have hw : wrap64 ((i : Int) + 1) = ((i + 1 : Nat) : Int) := by rw [w64 (by omega) (by omega)]; omega
      rw [gudgeonlaw05_LexBack.l0, if_pos (show (i : Int) < (X.length : Int) by omega), if_pos (show (0 : Int) ≤ (i : Int) by omega), rd_at X i hi', hw]
      by_cases h : (X[i].f1.size : Int) > 60
      · rw [if_pos h]
      · rw [if_neg h]
        refine ih (i + 1) k (by omega) (by omega) (by omega) (fun j hj hji => ?_)
        by_cases e : j = i
        · subst e; omega
        · exact hs j hj (by omega)
    · exact ih i k hi (by omega) (by omega) hs
theorem back_true (k : Nat) (X : List S23) (b : Bool) : gudgeonlaw05_LexBack.j0 (k + 1) X b true true = some true := by
  rw [gudgeonlaw05_LexBack.j0, if_pos rfl]
theorem back (X : List S23) (line : Bool) (K : Nat) (hK : 70000 ≤ K) : gudgeonlaw05_LexBack.f (K + 1) X line = some true := by
  unfold gudgeonlaw05_LexBack.f
  rw [awake_is (K + 1) (by omega), Option.bind_some, if_pos rfl]
  by_cases hx : (X.length : Int) > 100
  · rw [decide_eq_true hx]; exact back_true _ _ _
  rw [decide_eq_false hx, gudgeonlaw05_LexBack.j0, if_neg (by decide)]
  exact back_at X line (by omega) X.length 0 K (by omega) (by omega) (by omega) (fun j _ h => by omega)
theorem LexAgain : gudgeonlaw05_LexAgain.Pure := fun a _ => ⟨_, again a.data.toList 60000 (by omega)⟩
theorem LexBack (X : List S23) (line : Bool) : ∃ k, gudgeonlaw05_LexBack.f k X line = some true := ⟨_, back X line 70000 (by omega)⟩
end Go.Proofs.YtnpmmhceiaedcaaDoor.X
