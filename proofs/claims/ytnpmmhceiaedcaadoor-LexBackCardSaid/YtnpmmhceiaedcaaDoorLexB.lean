import Derived.Test.YtnpmmhceiaedcaaDoorLexA
/- lex: what one token is. -/
namespace Go.Proofs.YtnpmmhceiaedcaaDoor.X
open Go.RowKit Go.Proofs.YtnpmmhceiaedcaaDoor.H Go.Proofs.YtnpmmhceiaedcaaDoor.PA Go.Proofs.YtnpmmhceiaedcaaDoorW.PrintWords Go.Proofs.YtnpmmhceiaedcaaDoorW.PrintLast Go.Proofs.YtnpmmhceiaedcaaDoorW.PrintMore
set_option linter.unusedVariables false
set_option linter.unusedSimpArgs false

abbrev R5 := Int × ByteArray × Int × Int × Int
abbrev e51 : R5 := (0, ⟨#[]⟩, 0, 0, 51)
theorem w64 {n : Int} (h : 0 ≤ n) (h' : n ≤ 4611686018427387904) : wrap64 n = n := by unfold wrap64; omega
theorem nat34 (c : UInt8) (k : UInt8) : ((c.toNat : Int) = (k.toNat : Int)) ↔ c = k := by
  constructor
  · intro h; exact UInt8.toNat_inj.1 (by omega)
  · rintro rfl; rfl
def barsS (r : List UInt8) : R5 :=
  if h : sp b1 r < r.length then (if r[sp b1 r] = 124 then (if 0 ≤ Lib.indexByte (r.take (sp b1 r)) 92 then (0, ⟨#[]⟩, 0, 0, 8) else (3, ba (r.take (sp b1 r)), 0, (sp b1 r : Int) + 2, 0)) else (0, ⟨#[]⟩, 0, (sp b1 r : Int) + 1, 50))
  else e51
theorem bars_is (r : List UInt8) (h : r.length ≤ 140737488351232) : lex_bars.f (ba r) = some (barsS r) := by
  have hl := sp_le b1 r
  unfold lex_bars.f barsS
  rw [F21 r h, ba_size]
  simp only [Option.bind_some]
  by_cases hc : sp b1 r < r.length
  · rw [if_neg (by omega), if_pos (by omega), if_pos (by omega), dif_pos hc, bt_ba r _ hc]
    have e : ((r[sp b1 r].toNat : Int) = 124) ↔ r[sp b1 r] = 124 := nat34 r[sp b1 r] 124
    by_cases h4 : r[sp b1 r] = 124
    · rw [if_pos (e.2 h4), if_pos (by omega), if_pos h4]
      simp only [Int.toNat_natCast, ext_take, strings_Contains.f, strings_Index.f, stringslite_Index.f, Option.bind_some]
      by_cases h5 : 0 ≤ Lib.indexByte (r.take (sp b1 r)) 92
      · rw [if_pos h5]; simp [h5]
      · rw [if_neg h5]; simp [h5]; exact w64 (by omega) (by omega)
    · rw [if_neg (fun z => h4 (e.1 z)), if_neg h4, w64 (by omega) (by omega)]
  · rw [if_pos (by omega), dif_neg hc]
theorem bars_app (x y : List UInt8) (h : (barsS x).2.2.2.2 ≠ 51) : barsS (x ++ y) = barsS x := by
  by_cases hc : sp b1 x < x.length
  · have e := sp_lt b1 y x hc
    unfold barsS
    have hc' : sp b1 (x ++ y) < (x ++ y).length := by rw [e, List.length_append]; omega
    rw [dif_pos hc, dif_pos hc']
    simp only [e, List.getElem_append_left hc, List.take_append_of_le_length (Nat.le_of_lt hc)]
  · exfalso; apply h; unfold barsS; rw [dif_neg hc]
theorem bars_end (x : List UInt8) (h : (barsS x).2.2.2.2 = 51) : barsS (x ++ [10]) = e51 := by
  by_cases hc : sp b1 x < x.length
  · exfalso; unfold barsS at h; rw [dif_pos hc] at h; split at h <;> first | (split at h <;> simp at h) | simp at h
  · have := sp_le b1 x
    unfold barsS
    rw [dif_neg (by rw [sp_all b1 [10] x (by omega)]; simp [sp, b110])]
theorem bars_good (x : List UInt8) : (barsS x).2.2.1 = 0 ∧ 0 ≤ (barsS x).2.2.2.1 ∧ (barsS x).2.2.2.1 ≤ x.length + 1 ∧ ((barsS x).2.2.2.2 = 0 → 1 ≤ (barsS x).2.2.2.1) := by
  unfold barsS
  split
  · split
    · split <;> simp <;> omega
    · simp; omega
  · simp; omega

theorem lit_some : ∀ (k : Nat) (l : List UInt8) (a : Int) (acc : List UInt8), l.length < k → 0 ≤ a → ∃ r : R5, litF k l a acc = some r ∧ r.2.2.1 = 0 ∧ 0 ≤ r.2.2.2.1 ∧ r.2.2.2.1 ≤ a + l.length + 1 ∧ (r.2.2.2.2 = 0 → 1 ≤ r.2.2.2.1)
  | 0, l, a, acc, h, ha => by omega
  | k + 1, l, a, acc, h, ha => by
    have hl := sp_le q1 l
    have hn : spanO (fun c => lex_literal_1.f c) l 0 = some ((sp q1 l : Nat) : Int) := by rw [spanO_is q1_is]; simp
    simp only [litF, hn, Option.bind_some, Int.toNat_natCast]
    have hd : (l.drop (sp q1 l)).length = l.length - sp q1 l := List.length_drop
    cases e : l.drop (sp q1 l) with
    | nil => exact ⟨_, rfl, rfl, by simp, by simp; omega, by simp⟩
    | cons c r =>
      rw [e] at hd; simp only [List.length_cons] at hd
      simp only
      split
      · cases r with
        | nil => exact ⟨_, rfl, rfl, by simp; omega, by simp; simp only [List.length_nil] at hd; omega, by simp; omega⟩
        | cons d r' =>
          simp only [List.length_cons] at hd
          simp only
          split
          · obtain ⟨r0, h0, h1, h2, h3, h4⟩ := lit_some k r' (a + (sp q1 l : Nat) + 2) (acc ++ l.take (sp q1 l) ++ [34]) (by omega) (by omega)
            exact ⟨r0, h0, h1, h2, by omega, h4⟩
          · exact ⟨_, rfl, rfl, by simp; omega, by simp; omega, by simp; omega⟩
      · exact ⟨_, rfl, rfl, by simp; omega, by simp; omega, by simp⟩
theorem lit_app (y : List UInt8) : ∀ (k : Nat) (l : List UInt8) (a : Int) (acc : List UInt8) (r : R5), litF k l a acc = some r → r.2.2.2.2 ≠ 51 → ∀ k', k ≤ k' → litF k' (l ++ 10 :: y) a acc = some r
  | 0, l, a, acc, r, h, _, _, _ => by simp [litF] at h
  | k + 1, l, a, acc, r, h, hr, k', hk => by
    obtain ⟨k', rfl⟩ : ∃ j, k' = j + 1 := ⟨k' - 1, by omega⟩
    have hl := sp_le q1 l
    have hn : ∀ l, spanO (fun c => lex_literal_1.f c) l 0 = some ((sp q1 l : Nat) : Int) := fun l => by rw [spanO_is q1_is]; simp
    simp only [litF, hn, Option.bind_some, Int.toNat_natCast] at h ⊢
    by_cases hc : sp q1 l < l.length
    · rw [sp_lt q1 (10 :: y) l hc, List.drop_append_of_le_length (Nat.le_of_lt hc), List.take_append_of_le_length (Nat.le_of_lt hc)]
      rw [List.drop_eq_getElem_cons hc] at h ⊢
      simp only [List.cons_append] at h ⊢
      split at h
      · rename_i e34
        rw [if_pos e34]
        cases er : l.drop (sp q1 l + 1) with
        | nil =>
          rw [er] at h
          simp only [List.nil_append] at h ⊢
          exact h
        | cons d r' =>
          rw [er] at h
          simp only [List.cons_append] at h ⊢
          split at h
          · rename_i ed
            rw [if_pos ed]
            exact lit_app y k r' _ _ r h hr k' (by omega)
          · rename_i ed
            rw [if_neg ed]; exact h
      · rename_i e34
        rw [if_neg e34]; exact h
    · rw [List.drop_eq_nil_of_le (by omega)] at h
      exfalso; apply hr; rw [← Option.some.inj h]
theorem lit_end : ∀ (k : Nat) (l : List UInt8) (a : Int) (acc : List UInt8) (r : R5), litF k l a acc = some r → r.2.2.2.2 = 51 → ∀ k', k ≤ k' → litF k' (l ++ [10]) a acc = some e51
  | 0, l, a, acc, r, h, _, _, _ => by simp [litF] at h
  | k + 1, l, a, acc, r, h, hr, k', hk => by
    obtain ⟨k', rfl⟩ : ∃ j, k' = j + 1 := ⟨k' - 1, by omega⟩
    have hl := sp_le q1 l
    have hn : ∀ l, spanO (fun c => lex_literal_1.f c) l 0 = some ((sp q1 l : Nat) : Int) := fun l => by rw [spanO_is q1_is]; simp
    simp only [litF, hn, Option.bind_some, Int.toNat_natCast] at h ⊢
    by_cases hc : sp q1 l < l.length
    · rw [sp_lt q1 [10] l hc, List.drop_append_of_le_length (Nat.le_of_lt hc), List.take_append_of_le_length (Nat.le_of_lt hc)]
      rw [List.drop_eq_getElem_cons hc] at h ⊢
      simp only [List.cons_append] at h ⊢
      split at h
      · rename_i e34
        rw [if_pos e34]
        cases er : l.drop (sp q1 l + 1) with
        | nil =>
          rw [er] at h
          have := Option.some.inj h; subst this; simp at hr
        | cons d r' =>
          rw [er] at h
          simp only [List.cons_append] at h ⊢
          split at h
          · rename_i ed
            rw [if_pos ed]
            exact lit_end k r' _ _ r h hr k' (by omega)
          · have := Option.some.inj h; subst this; simp at hr
      · have := Option.some.inj h; subst this; simp at hr
    · rw [List.drop_eq_nil_of_le (by rw [sp_all q1 [10] l (by omega)]; simp [sp, q110])]
def litS (r : List UInt8) : R5 := (litF (r.length + 1) r 0 []).getD e51
theorem lit_is (r : List UInt8) (h : r.length ≤ 100000) : lex_literal.f (ba r) = some (litS r) := by
  obtain ⟨v, hv, _⟩ := lit_some (r.length + 1) r 0 [] (by omega) (by omega)
  unfold lex_literal.f litS
  rw [ba_size, if_pos (by omega), hv]
  rfl
theorem litS_app (x y : List UInt8) (h : (litS x).2.2.2.2 ≠ 51) : litS (x ++ 10 :: y) = litS x := by
  obtain ⟨v, hv, _⟩ := lit_some (x.length + 1) x 0 [] (by omega) (by omega)
  unfold litS at h ⊢
  rw [hv] at h ⊢
  rw [lit_app y _ _ _ _ v hv h _ (by simp)]
theorem litS_end (x : List UInt8) (h : (litS x).2.2.2.2 = 51) : litS (x ++ [10]) = e51 := by
  obtain ⟨v, hv, _⟩ := lit_some (x.length + 1) x 0 [] (by omega) (by omega)
  unfold litS at h ⊢
  rw [hv] at h
  rw [lit_end _ _ _ _ v hv h _ (by simp)]; rfl
theorem litS_good (x : List UInt8) : (litS x).2.2.1 = 0 ∧ 0 ≤ (litS x).2.2.2.1 ∧ (litS x).2.2.2.1 ≤ x.length + 1 ∧ ((litS x).2.2.2.2 = 0 → 1 ≤ (litS x).2.2.2.1) := by
  obtain ⟨v, hv, h1, h2, h3, h4⟩ := lit_some (x.length + 1) x 0 [] (by omega) (by omega)
  unfold litS; rw [hv]
  exact ⟨h1, h2, by simp only [Option.getD_some]; omega, h4⟩

theorem index_ge (l : List UInt8) (c : UInt8) : -1 ≤ Lib.indexByte l c := Lib.indexByte_ge l c
theorem plain_some (l : List UInt8) (h : l.length ≤ 140737488351232) : ∃ b, lex_plain.f (ba l) = some b := by
  unfold lex_plain.f
  rw [F17 l h, ba_size]
  simp only [Option.bind_some]
  split
  · exact ⟨_, rfl⟩
  · rename_i hne
    split
    · have h0 : 0 < l.length := by
        cases l with
        | nil => exact absurd (by kernel_rfl) hne
        | cons => simp
      rw [if_pos (by omega)]
      split <;> exact ⟨_, rfl⟩
    · exact ⟨_, rfl⟩
theorem cut_some (l : List UInt8) (h : l.length ≤ 140737488351232) : ∃ x y b, strings_Cut.f (ba l) (⟨#[46]⟩ : ByteArray) = some (ba x, ba y, b) ∧ x.length ≤ 140737488351232 ∧ y.length ≤ 140737488351232 := by
  unfold strings_Cut.f stringslite_Cut.f stringslite_Index.f
  have e : (⟨#[46]⟩ : ByteArray).data.toList = [46] := rfl
  simp only [e, Option.bind_some, show (ba l).data.toList = l from rfl, ba_size, show (([46] : List UInt8).length : Int) = 1 from rfl]
  have hg := index_ge l 46
  have hlt : Lib.indexByte l 46 < l.length ∨ Lib.indexByte l 46 = -1 := by
    by_cases h1 : 0 ≤ Lib.indexByte l 46
    · obtain ⟨o, ho⟩ := Int.eq_ofNat_of_zero_le h1
      have := (Lib.indexByte_some ho).1
      have := (List.getElem?_eq_some_iff.1 this).1
      left; rw [ho]; omega
    · right; omega
  by_cases h1 : 0 ≤ Lib.indexByte l 46
  · have h2 : Lib.indexByte l 46 < l.length := by omega
    rw [w64 (by omega) (by omega), if_pos h1, if_pos h1, if_pos (by omega), if_pos (by omega), if_pos (by omega), ext_take, show (l.length : Nat) = (ba l).size from rfl, ext_drop]
    exact ⟨_, _, _, rfl, by rw [List.length_take]; omega, by rw [List.length_drop]; omega⟩
  · rw [if_neg (by omega)]
    exact ⟨_, [], _, rfl, h, by simp⟩
theorem numeral_some (l : List UInt8) (h : l.length ≤ 140737488351232) : ∃ r : R5, lex_numeral.f (ba l) = some r ∧ r.2.2.1 = 0 ∧ (r.2.2.2.2 = 0 ∧ r.2.2.2.1 = l.length ∨ r.2.2.2.2 = 8 ∧ r.2.2.2.1 = 0) := by
  obtain ⟨x, y, b, hc, hx, hy⟩ := cut_some l h
  obtain ⟨p, hp⟩ := plain_some l h
  obtain ⟨q, hq⟩ := plain_some x hx
  unfold lex_numeral.f
  simp only [hc, hp, hq, F17 y hy, Option.bind_some, ba_size]
  repeat' split
  all_goals first | exact ⟨_, rfl, rfl, .inl ⟨rfl, rfl⟩⟩ | exact ⟨_, rfl, rfl, .inr ⟨rfl, rfl⟩⟩
theorem coded_some (l : List UInt8) (h : l.length ≤ 140737488351232) : ∃ b, lex_coded.f (ba l) = some b := by
  unfold lex_coded.f
  rw [ext_drop, F29 _ (by rw [List.length_drop]; omega), F30 _ (by rw [List.length_drop]; omega), ba_size]
  simp only [Option.bind_some]
  split
  · exact ⟨_, rfl⟩
  · have h0 : (0 : Int) < (l.length : Int) := by omega
    have h1 : (1 : Int) ≤ (l.length : Int) := by omega
    simp only [if_pos h0, if_pos h1]
    repeat' split
    all_goals exact ⟨_, rfl⟩
def oneS (c : UInt8) (n : Nat) (t : List UInt8) (B L : R5) : Option R5 :=
  if c = 40 then some (1, ⟨#[40]⟩, 0, 1, 0) else if c = 41 then some (2, ⟨#[41]⟩, 0, 1, 0) else if c = 124 then some B else if c = 34 then some L
  else if dg c = true then lex_numeral.f (ba t) else if nm c = true then some (3, ba t, 0, (n : Int) + 1, 0)
  else if c = 58 ∧ 0 < n then some (7, ba t, 0, (n : Int) + 1, 0)
  else if c = 35 then (lex_coded.f (ba (t.drop 1))).bind fun b => if b = true then some (8, ba t, 0, (n : Int) + 1, 0) else some (0, ⟨#[]⟩, 0, 0, 8)
  else if c = 58 then some (0, ⟨#[]⟩, 0, 0, 8) else some (0, ⟨#[]⟩, 0, 0, 50)
theorem one_is (c : UInt8) (r : List UInt8) (h : r.length ≤ 100000) : lex_one.f 3 (ba (c :: r)) = oneS c (sp nm r) ((c :: r).take (sp nm r + 1)) (barsS r) (litS r) := by
  have hl := sp_le nm r
  have hd1 : (ba (c :: r)).extract 1 (ba (c :: r)).size = ba r := by rw [ext_drop]; rfl
  have hb0 : bt (ba (c :: r)) 0 = (c.toNat : Int) := bt_ba (c :: r) 0 (by simp)
  have hw : wrap64 (1 + (sp nm r : Int)) = ((sp nm r + 1 : Nat) : Int) := by rw [w64 (by omega) (by omega)]; omega
  unfold lex_one.f
  rw [hd1, F14 r (by omega), bars_is r (by omega), lit_is r h, hb0]
  simp -implicitDefEqProofs only [Option.bind_some, dg_is, nm_is, hw, ba_size, List.length_cons, Int.toNat_natCast, ext_ba, List.drop_zero, lex_one.j0, lex_one.j1]
  rw [if_pos (show (1 : Int) ≤ ((r.length + 1 : Nat) : Int) by omega), if_pos (show (0 : Int) < ((r.length + 1 : Nat) : Int) by omega)]
  have e40 := nat34 c 40
  have e41 := nat34 c 41
  have e124 := nat34 c 124
  have e34 := nat34 c 34
  have e58 := nat34 c 58
  have e35 := nat34 c 35
  simp only [show ((40 : UInt8).toNat : Int) = 40 from rfl, show ((41 : UInt8).toNat : Int) = 41 from rfl, show ((124 : UInt8).toNat : Int) = 124 from rfl, show ((34 : UInt8).toNat : Int) = 34 from rfl, show ((58 : UInt8).toNat : Int) = 58 from rfl, show ((35 : UInt8).toNat : Int) = 35 from rfl] at e40 e41 e124 e34 e58 e35
  have q1 : (0 : Int) ≤ ((sp nm r + 1 : Nat) : Int) := by omega
  have q2 : ((sp nm r + 1 : Nat) : Int) ≤ ((r.length + 1 : Nat) : Int) := by omega
  have q3 : (1 : Int) ≤ ((sp nm r + 1 : Nat) : Int) := by omega
  simp only [e40, e41, e124, e34, e58, e35, if_pos q1, if_pos q2, if_pos q3]
  unfold oneS
  have hs : ((sp nm r + 1 : Nat) : Int) = (sp nm r : Int) + 1 := by omega
  by_cases a1 : c = 40
  · simp only [if_pos a1]
  rw [if_neg a1, if_neg a1]
  by_cases a2 : c = 41
  · simp only [if_pos a2]
  rw [if_neg a2, if_neg a2]
  by_cases a3 : c = 124
  · simp only [if_pos a3]
  rw [if_neg a3, if_neg a3]
  by_cases a4 : c = 34
  · simp only [if_pos a4]
  rw [if_neg a4, if_neg a4]
  by_cases a5 : dg c = true
  · simp only [if_pos a5]
    obtain ⟨v, hv, _⟩ := numeral_some ((c :: r).take (sp nm r + 1)) (by rw [List.length_take]; simp only [List.length_cons]; omega)
    rw [hv]; rfl
  rw [if_neg a5, if_neg a5]
  by_cases a6 : nm c = true
  · simp only [if_pos a6, hs]
  rw [if_neg a6, if_neg a6]
  obtain ⟨b, hb⟩ := coded_some (((c :: r).take (sp nm r + 1)).drop 1) (by rw [List.length_drop, List.length_take]; simp only [List.length_cons]; omega)
  by_cases a7 : c = 58
  · subst a7
    by_cases a8 : 0 < sp nm r
    · have e : decide (((sp nm r + 1 : Nat) : Int) > 1) = true := decide_eq_true (by omega)
      rw [if_pos rfl, if_pos e, if_pos ⟨rfl, a8⟩, hs]
    · have e : decide (((sp nm r + 1 : Nat) : Int) > 1) = false := decide_eq_false (by omega)
      rw [if_pos rfl, e, if_neg (by decide), if_neg (by decide), if_neg (by decide), if_pos rfl, if_neg (fun z => a8 z.2), if_neg (by decide), if_pos rfl]
  · rw [if_neg a7, if_neg (show ¬ (false = true) by decide), if_neg (fun z : c = 58 ∧ 0 < sp nm r => a7 z.1)]
    by_cases a9 : c = 35
    · rw [if_pos a9, if_pos a9, hb, Option.bind_some, Option.bind_some, if_neg a7, if_pos a9, hs]
    · rw [if_neg a9, if_neg a9, if_neg (show ¬ (false = true) by decide), if_neg a7, if_neg a9]
theorem oneS_some (c : UInt8) (r : List UInt8) (h : r.length ≤ 100000) : ∃ v : R5, oneS c (sp nm r) ((c :: r).take (sp nm r + 1)) (barsS r) (litS r) = some v ∧ v.2.2.1 = 0 ∧ 0 ≤ v.2.2.2.1 ∧ v.2.2.2.1 ≤ (c :: r).length ∧ (v.2.2.2.2 = 0 → 1 ≤ v.2.2.2.1) := by
  have hl := sp_le nm r
  have ht : ((c :: r).take (sp nm r + 1)).length = sp nm r + 1 := by rw [List.length_take]; simp only [List.length_cons]; omega
  obtain ⟨u, hu, u1, u2⟩ := numeral_some ((c :: r).take (sp nm r + 1)) (by omega)
  obtain ⟨b, hb⟩ := coded_some (((c :: r).take (sp nm r + 1)).drop 1) (by rw [List.length_drop]; omega)
  have hB := bars_good r
  have hL := litS_good r
  unfold oneS
  simp only [hu, hb, Option.bind_some, List.length_cons]
  rw [ht] at u2
  repeat' split
  all_goals first
    | exact ⟨_, rfl, hB.1, hB.2.1, by have := hB.2.2.1; omega, hB.2.2.2⟩
    | exact ⟨_, rfl, hL.1, hL.2.1, by have := hL.2.2.1; omega, hL.2.2.2⟩
    | exact ⟨_, rfl, u1, by omega, by omega, by omega⟩
    | exact ⟨_, rfl, rfl, by simp <;> omega, by simp <;> omega, by simp <;> omega⟩
/-- What one tells of a text. -/
def one (l : List UInt8) : R5 := (lex_one.f 3 (ba l)).getD (0, ⟨#[]⟩, 0, 0, 50)
theorem one_ok (l : List UInt8) (h0 : l ≠ []) (h : l.length ≤ 100000) : lex_one.f 3 (ba l) = some (one l) ∧ (one l).2.2.1 = 0 ∧ 0 ≤ (one l).2.2.2.1 ∧ (one l).2.2.2.1 ≤ l.length ∧ ((one l).2.2.2.2 = 0 → 1 ≤ (one l).2.2.2.1) := by
  cases l with
  | nil => exact absurd rfl h0
  | cons c r =>
    simp only [List.length_cons] at h
    obtain ⟨v, hv, h1⟩ := oneS_some c r (by omega)
    have e := one_is c r (by omega)
    rw [hv] at e
    unfold one; rw [e]; exact ⟨rfl, h1⟩
theorem one_app (x y : List UInt8) (h0 : x ≠ []) (h : (x ++ 10 :: y).length ≤ 100000) (hx : (one x).2.2.2.2 ≠ 51) : one (x ++ 10 :: y) = one x := by
  cases x with
  | nil => exact absurd rfl h0
  | cons c r =>
    have hr : r.length ≤ 100000 := by simp at h; omega
    have hr' : (r ++ 10 :: y).length ≤ 100000 := by simp at h ⊢; omega
    have hl := sp_le nm r
    unfold one at hx ⊢
    rw [List.cons_append, one_is c _ hr', sp_app nm nm10, show (c :: (r ++ 10 :: y)).take (sp nm r + 1) = (c :: r).take (sp nm r + 1) by
      rw [← List.cons_append, List.take_append_of_le_length (by simp only [List.length_cons]; omega)]]
    rw [one_is c r hr] at hx ⊢
    by_cases a3 : c = 124
    · have e : ∀ t B L, oneS c (sp nm r) t B L = some B := fun t B L => by subst a3; rfl
      rw [e] at hx ⊢; rw [e]
      simp only [Option.getD_some] at hx ⊢
      exact bars_app r (10 :: y) hx
    · by_cases a4 : c = 34
      · have e : ∀ t B L, oneS c (sp nm r) t B L = some L := fun t B L => by subst a4; rfl
        rw [e] at hx ⊢; rw [e]
        simp only [Option.getD_some] at hx ⊢
        exact litS_app r y hx
      · unfold oneS; simp only [if_neg a3, if_neg a4]
theorem one_end (x : List UInt8) (h0 : x ≠ []) (h : (x ++ [10]).length ≤ 100000) (hx : (one x).2.2.2.2 = 51) : (one (x ++ [10])).2.2.2.2 = 51 := by
  cases x with
  | nil => exact absurd rfl h0
  | cons c r =>
    have hr : r.length ≤ 100000 := by simp at h; omega
    have hr' : (r ++ [10]).length ≤ 100000 := by simp at h ⊢; omega
    have hl := sp_le nm r
    unfold one at hx ⊢
    rw [List.cons_append, one_is c _ hr', sp_app nm nm10, show (c :: (r ++ [10])).take (sp nm r + 1) = (c :: r).take (sp nm r + 1) by
      rw [← List.cons_append, List.take_append_of_le_length (by simp only [List.length_cons]; omega)]]
    rw [one_is c r hr] at hx
    by_cases a3 : c = 124
    · have e : ∀ t B L, oneS c (sp nm r) t B L = some B := fun t B L => by subst a3; rfl
      rw [e] at hx ⊢
      simp only [Option.getD_some] at hx ⊢
      rw [bars_end r hx]
    · by_cases a4 : c = 34
      · have e : ∀ t B L, oneS c (sp nm r) t B L = some L := fun t B L => by subst a4; rfl
        rw [e] at hx ⊢
        simp only [Option.getD_some] at hx ⊢
        rw [litS_end r hx]
      · unfold oneS at hx ⊢; simp only [if_neg a3, if_neg a4] at hx ⊢; exact hx
end Go.Proofs.YtnpmmhceiaedcaaDoor.X
