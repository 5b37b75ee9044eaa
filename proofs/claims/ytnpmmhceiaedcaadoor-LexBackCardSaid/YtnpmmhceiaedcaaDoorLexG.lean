import Derived.Test.YtnpmmhceiaedcaaDoorLexD
/- lex: what is written of a token is that token. -/
namespace Go.Proofs.YtnpmmhceiaedcaaDoor.X
open Go.RowKit Go.Proofs.YtnpmmhceiaedcaaDoor.H Go.Proofs.YtnpmmhceiaedcaaDoor.PA Go.Proofs.YtnpmmhceiaedcaaDoorW.PrintWords Go.Proofs.YtnpmmhceiaedcaaDoorW.PrintLast Go.Proofs.YtnpmmhceiaedcaaDoorW.PrintMore
set_option linter.unusedVariables false
set_option linter.unusedSimpArgs false

/-- Quotes doubled. -/
def dbl : List UInt8 → List UInt8
  | [] => []
  | c :: r => if c = 34 then 34 :: 34 :: dbl r else c :: dbl r
def simpl : List UInt8 → Bool
  | [] => false
  | c :: r => !dg c && (sp nm (c :: r) == (c :: r).length)
/-- What is written of a token. -/
def TokW (kd : Int) (t : List UInt8) : List UInt8 := if kd = 3 ∧ simpl t = false then 124 :: (t ++ [124]) else if kd = 6 then 34 :: (dbl t ++ [34]) else t
theorem nm_props (c : UInt8) (h : nm c = true) : bk c = false ∧ gd c = true ∧ c ≠ 59 ∧ c ≠ 40 ∧ c ≠ 41 ∧ c ≠ 124 ∧ c ≠ 34 := by
  have := byte_all (P := fun n => !(lex_named.f 3 (n : Int) == some true) || (!(lex_blank.f (n : Int) == some true) && (lex_good.f (n : Int) == some true) && n != 59 && n != 40 && n != 41 && n != 124 && n != 34)) (by kernel_rfl) c
  have h' : (lex_named.f 3 (c.toNat : Int) == some true) = true := h
  rw [h'] at this
  simp only [Bool.not_true, Bool.false_or, Bool.and_eq_true, bne_iff_ne, ne_eq] at this
  obtain ⟨⟨⟨⟨⟨⟨h1, h2⟩, h3⟩, h4⟩, h5⟩, h6⟩, h7⟩ := this
  refine ⟨by simpa [bk, tb] using h1, h2, ?_, ?_, ?_, ?_, ?_⟩
  · rintro rfl; exact h3 rfl
  · rintro rfl; exact h4 rfl
  · rintro rfl; exact h5 rfl
  · rintro rfl; exact h6 rfl
  · rintro rfl; exact h7 rfl
theorem dg_nm (c : UInt8) (h : dg c = true) : nm c = true := by
  have := byte_all (P := fun n => !(lex_digit.f (n : Int) == some true) || (lex_named.f 3 (n : Int) == some true)) (by kernel_rfl) c
  have h' : (lex_digit.f (c.toNat : Int) == some true) = true := h
  rw [h'] at this
  simp only [Bool.not_true, Bool.false_or] at this
  exact this
theorem q1_not (c : UInt8) (h : q1 c = true) : c ≠ 34 := by rintro rfl; rw [q134] at h; cases h
theorem bk124 : bk 124 = false := by kernel_rfl
theorem gd124 : gd 124 = true := by kernel_rfl
theorem b1124 : b1 124 = false := by kernel_rfl
theorem bk34 : bk 34 = false := by kernel_rfl
theorem gd34 : gd 34 = true := by kernel_rfl
theorem bk58 : bk 58 = false := by kernel_rfl
theorem gd58 : gd 58 = true := by kernel_rfl
theorem bk35 : bk 35 = false := by kernel_rfl
theorem gd35 : gd 35 = true := by kernel_rfl
theorem bk40 : bk 40 = false := by kernel_rfl
theorem gd40 : gd 40 = true := by kernel_rfl
theorem bk41 : bk 41 = false := by kernel_rfl
theorem gd41 : gd 41 = true := by kernel_rfl
theorem nm32 : nm 32 = false := by kernel_rfl

theorem sp_stop (p : UInt8 → Bool) (b : UInt8) (hn : p b = false) (y : List UInt8) : ∀ x, sp p (x ++ b :: y) = sp p x
  | [] => by simp [sp, hn]
  | c :: r => by simp only [List.cons_append, sp, sp_stop p b hn y r]
theorem sp_take (p : UInt8 → Bool) : ∀ x, sp p (x.take (sp p x)) = sp p x
  | [] => by simp [sp]
  | c :: r => by
    by_cases hc : p c = true
    · have e : sp p (c :: r) = sp p r + 1 := by simp only [sp, if_pos hc]
      rw [e, List.take_succ_cons]
      simp only [sp, if_pos hc, sp_take p r]
    · have e : sp p (c :: r) = 0 := by simp only [sp, if_neg hc]
      rw [e, List.take_zero]; rfl
theorem lit_appb (b : UInt8) (hb : b ≠ 34) (y : List UInt8) : ∀ (k : Nat) (l : List UInt8) (a : Int) (acc : List UInt8) (r : R5), litF k l a acc = some r → r.2.2.2.2 ≠ 51 → ∀ k', k ≤ k' → litF k' (l ++ b :: y) a acc = some r
  | 0, l, a, acc, r, h, _, _, _ => by simp [litF] at h
  | k + 1, l, a, acc, r, h, hr, k', hk => by
    obtain ⟨k', rfl⟩ : ∃ j, k' = j + 1 := ⟨k' - 1, by omega⟩
    have hl := sp_le q1 l
    have hn : ∀ l, spanO (fun c => lex_literal_1.f c) l 0 = some ((sp q1 l : Nat) : Int) := fun l => by rw [spanO_is q1_is]; simp
    simp only [litF, hn, Option.bind_some, Int.toNat_natCast] at h ⊢
    by_cases hc : sp q1 l < l.length
    · rw [sp_lt q1 (b :: y) l hc, List.drop_append_of_le_length (Nat.le_of_lt hc), List.take_append_of_le_length (Nat.le_of_lt hc)]
      rw [List.drop_eq_getElem_cons hc] at h ⊢
      simp only [List.cons_append] at h ⊢
      split at h
      · rename_i e34
        rw [if_pos e34]
        cases er : l.drop (sp q1 l + 1) with
        | nil =>
          rw [er] at h
          simp only [List.nil_append, if_neg hb] at h ⊢
          exact h
        | cons d r' =>
          rw [er] at h
          simp only [List.cons_append] at h ⊢
          split at h
          · rename_i ed
            rw [if_pos ed]
            exact lit_appb b hb y k r' _ _ r h hr k' (by omega)
          · rename_i ed
            rw [if_neg ed]; exact h
      · rename_i e34
        rw [if_neg e34]; exact h
    · rw [List.drop_eq_nil_of_le (by omega)] at h
      exfalso; apply hr; rw [← Option.some.inj h]
theorem litS_appb (b : UInt8) (hb : b ≠ 34) (x y : List UInt8) (h : (litS x).2.2.2.2 ≠ 51) : litS (x ++ b :: y) = litS x := by
  obtain ⟨v, hv, _⟩ := lit_some (x.length + 1) x 0 [] (by omega) (by omega)
  unfold litS at h ⊢
  rw [hv] at h ⊢
  rw [lit_appb b hb y _ _ _ _ v hv h _ (by simp)]
theorem one_appb (b : UInt8) (hb : nm b = false) (h34 : b ≠ 34) (x y : List UInt8) (h0 : x ≠ []) (h : (x ++ b :: y).length ≤ 100000) (hx : (one x).2.2.2.2 ≠ 51) : one (x ++ b :: y) = one x := by
  cases x with
  | nil => exact absurd rfl h0
  | cons c r =>
    have hr : r.length ≤ 100000 := by simp at h; omega
    have hr' : (r ++ b :: y).length ≤ 100000 := by simp at h ⊢; omega
    have hl := sp_le nm r
    unfold one at hx ⊢
    rw [List.cons_append, one_is c _ hr', sp_stop nm b hb, show (c :: (r ++ b :: y)).take (sp nm r + 1) = (c :: r).take (sp nm r + 1) by
      rw [← List.cons_append, List.take_append_of_le_length (by simp only [List.length_cons]; omega)]]
    rw [one_is c r hr] at hx ⊢
    by_cases a3 : c = 124
    · have e : ∀ t B L, oneS c (sp nm r) t B L = some B := fun t B L => by subst a3; rfl
      rw [e] at hx ⊢; rw [e]
      simp only [Option.getD_some] at hx ⊢
      exact bars_app r (b :: y) hx
    · by_cases a4 : c = 34
      · have e : ∀ t B L, oneS c (sp nm r) t B L = some L := fun t B L => by subst a4; rfl
        rw [e] at hx ⊢; rw [e]
        simp only [Option.getD_some] at hx ⊢
        exact litS_appb b h34 r y hx
      · unfold oneS; simp only [if_neg a3, if_neg a4]

/-- A literal's steps. -/
theorem hspan1 (l : List UInt8) : spanO (fun c => lex_literal_1.f c) l 0 = some ((sp q1 l : Nat) : Int) := by rw [spanO_is q1_is]; simp
theorem lit_step (k : Nat) (c : UInt8) (hc : q1 c = true) (l : List UInt8) (a : Int) (acc : List UInt8) : litF (k + 1) (c :: l) a acc = litF (k + 1) l (a + 1) (acc ++ [c]) := by
  have e : sp q1 (c :: l) = sp q1 l + 1 := by simp only [sp, if_pos hc]
  simp only [litF, hspan1, Option.bind_some, Int.toNat_natCast, e, List.drop_succ_cons, List.take_succ_cons, List.append_assoc, List.singleton_append]
  have e2 : a + ((sp q1 l + 1 : Nat) : Int) = a + 1 + ((sp q1 l : Nat) : Int) := by omega
  rw [e2]
theorem lit_two (k : Nat) (l : List UInt8) (a : Int) (acc : List UInt8) : litF (k + 1) (34 :: 34 :: l) a acc = litF k l (a + 2) (acc ++ [34]) := by
  have e : sp q1 (34 :: 34 :: l) = 0 := by simp [sp, q134]
  simp only [litF, hspan1, Option.bind_some, Int.toNat_natCast, e, List.drop_zero, List.take_zero, if_true, List.append_nil]
  simp
theorem lit_one (k : Nat) (a : Int) (acc : List UInt8) : litF (k + 1) [34] a acc = some (6, ba acc, 0, a + 2, 0) := by
  have e : sp q1 [34] = 0 := by simp [sp, q134]
  simp only [litF, hspan1, Option.bind_some, Int.toNat_natCast, e, List.drop_zero, List.take_zero, if_true, List.append_nil]
  simp
theorem lit_of_dbl : ∀ (u : List UInt8) (k : Nat) (a : Int) (acc : List UInt8), (∀ c ∈ u, q1 c = true ∨ c = 34) → u.length < k → litF k (dbl u ++ [34]) a acc = some (6, ba (acc ++ u), 0, a + ((dbl u).length : Int) + 2, 0)
  | [], k, a, acc, _, hk => by
    obtain ⟨k, rfl⟩ : ∃ j, k = j + 1 := ⟨k - 1, by omega⟩
    simp only [dbl, List.nil_append, lit_one, List.append_nil, List.length_nil]; simp
  | c :: u, k, a, acc, h, hk => by
    obtain ⟨k, rfl⟩ : ∃ j, k = j + 1 := ⟨k - 1, by omega⟩
    simp only [List.length_cons] at hk
    by_cases h34 : c = 34
    · subst h34
      simp only [dbl, if_true, List.cons_append, lit_two]
      rw [lit_of_dbl u k _ _ (fun z hz => h z (List.mem_cons_of_mem _ hz)) (by omega)]
      simp only [List.append_assoc, List.singleton_append, List.length_cons, Option.some.injEq, Prod.mk.injEq, and_true, true_and]
      omega
    · have hq : q1 c = true := (h c List.mem_cons_self).resolve_right h34
      simp only [dbl, if_neg h34, List.cons_append, lit_step k c hq]
      rw [lit_of_dbl u (k + 1) _ _ (fun z hz => h z (List.mem_cons_of_mem _ hz)) (by omega)]
      simp only [List.append_assoc, List.singleton_append, List.length_cons, Option.some.injEq, Prod.mk.injEq, and_true, true_and]
      omega
theorem dbl_app (x y : List UInt8) : dbl (x ++ y) = dbl x ++ dbl y := by
  induction x with
  | nil => rfl
  | cons c r ih => simp only [List.cons_append, dbl, ih]; split <;> simp
theorem dbl_q1 : ∀ (x : List UInt8), (∀ c ∈ x, q1 c = true) → dbl x = x
  | [], _ => rfl
  | c :: r, h => by
    have := q1_not c (h c List.mem_cons_self)
    simp only [dbl, if_neg this, dbl_q1 r (fun z hz => h z (List.mem_cons_of_mem _ hz))]
theorem sp_mem (p : UInt8 → Bool) : ∀ (l : List UInt8), ∀ c ∈ l.take (sp p l), p c = true
  | [], c, h => by simp at h
  | d :: r, c, h => by
    by_cases hd : p d = true
    · have e : sp p (d :: r) = sp p r + 1 := by simp only [sp, if_pos hd]
      rw [e, List.take_succ_cons, List.mem_cons] at h
      rcases h with rfl | h
      · exact hd
      · exact sp_mem p r c h
    · have e : sp p (d :: r) = 0 := by simp only [sp, if_neg hd]
      rw [e] at h; simp at h
/-- What a literal says, and how long it is. -/
theorem lit_says : ∀ (k : Nat) (l : List UInt8) (a : Int) (acc : List UInt8) (r : R5), litF k l a acc = some r → r.2.2.2.2 = 0 →
    ∃ u, r = (6, ba (acc ++ u), 0, a + ((dbl u).length : Int) + 2, 0) ∧ ∀ c ∈ u, q1 c = true ∨ c = 34
  | 0, l, a, acc, r, h, _ => by simp [litF] at h
  | k + 1, l, a, acc, r, h, h0 => by
    have hm := sp_mem q1 l
    have hl := sp_le q1 l
    simp only [litF, hspan1, Option.bind_some, Int.toNat_natCast] at h
    have hd1 : ((dbl (l.take (sp q1 l))).length : Int) = (sp q1 l : Int) := by rw [dbl_q1 _ hm, List.length_take]; omega
    split at h
    · rw [← Option.some.inj h] at h0; simp at h0
    · rename_i c r1 e1
      split at h
      · split at h
        · refine ⟨l.take (sp q1 l), ?_, fun c hc => .inl (hm c hc)⟩
          rw [hd1]; exact (Option.some.inj h).symm
        · rename_i d r2
          split at h
          · obtain ⟨u, hu, hc⟩ := lit_says k r2 _ _ r h h0
            refine ⟨l.take (sp q1 l) ++ 34 :: u, ?_, ?_⟩
            · rw [hu, dbl_app, List.length_append]
              simp only [dbl, if_true, List.length_cons, List.append_assoc, List.singleton_append, Prod.mk.injEq, and_true, true_and]
              push_cast
              rw [hd1]; omega
            · intro z hz
              rcases List.mem_append.1 hz with hz | hz
              · exact .inl (hm z hz)
              · rcases List.mem_cons.1 hz with rfl | hz
                · exact .inr rfl
                · exact hc z hz
          · refine ⟨l.take (sp q1 l), ?_, fun c hc => .inl (hm c hc)⟩
            rw [hd1]; exact (Option.some.inj h).symm
      · rw [← Option.some.inj h] at h0; simp at h0
theorem dbl_len : ∀ u : List UInt8, u.length ≤ (dbl u).length ∧ (dbl u).length ≤ 2 * u.length
  | [] => by simp [dbl]
  | c :: r => by have := dbl_len r; simp only [dbl]; split <;> simp only [List.length_cons] <;> omega

/-- W is a token's text by itself. -/
def Own (kd : Int) (t W : List UInt8) : Prop := sk false W = (0, false) ∧ W ≠ [] ∧ one W = (kd, ba t, 0, (W.length : Int), 0)
theorem sk_zero (c : UInt8) (r : List UInt8) (h : bk c = false) (h' : c ≠ 59) (hg : gd c = true) : sk false (c :: r) = (0, false) := by
  simp only [sk]; rw [if_neg (by rw [h]; decide), if_neg h', hg]; rfl
theorem one_eq (c : UInt8) (r : List UInt8) (h : r.length ≤ 100000) : oneS c (sp nm r) ((c :: r).take (sp nm r + 1)) (barsS r) (litS r) = some (one (c :: r)) := by
  have e := one_is c r h
  obtain ⟨v, hv, _⟩ := oneS_some c r h
  rw [hv]
  unfold one; rw [e, hv]; rfl
theorem one_self (c : UInt8) (r : List UInt8) (h : r.length ≤ 100000) (a3 : c ≠ 124) (a4 : c ≠ 34) : one (c :: r.take (sp nm r)) = one (c :: r) := by
  have hl := sp_le nm r
  have h1 := one_eq c r h
  have h2 := one_eq c (r.take (sp nm r)) (by rw [List.length_take]; omega)
  rw [sp_take] at h2
  have e : (c :: r.take (sp nm r)).take (sp nm r + 1) = (c :: r).take (sp nm r + 1) := by
    rw [List.take_succ_cons, List.take_succ_cons, List.take_take, Nat.min_self]
  rw [e] at h2
  unfold oneS at h1 h2
  simp only [if_neg a3, if_neg a4] at h1 h2
  exact Option.some.inj (h2.symm.trans h1)
theorem numeral_ok (l : List UInt8) (h : l.length ≤ 140737488351232) (r : R5) (hr : lex_numeral.f (ba l) = some r) (h0 : r.2.2.2.2 = 0) : (r.1 = 4 ∨ r.1 = 5) ∧ r.2.1 = ba l ∧ r.2.2.1 = 0 ∧ r.2.2.2.1 = l.length := by
  obtain ⟨x, y, b, hc, hx, hy⟩ := cut_some l h
  obtain ⟨p, hp⟩ := plain_some l h
  obtain ⟨q, hq⟩ := plain_some x hx
  unfold lex_numeral.f at hr
  simp only [hc, hp, hq, F17 y hy, Option.bind_some, ba_size] at hr
  repeat' split at hr
  all_goals (rw [← Option.some.inj hr] at h0 ⊢; first | exact ⟨.inl rfl, rfl, rfl, rfl⟩ | exact ⟨.inr rfl, rfl, rfl, rfl⟩ | (simp at h0))
theorem own_of_one (x : List UInt8) (h0 : x ≠ []) (hx : x.length ≤ 100000) (he : (one x).2.2.2.2 = 0) :
    ∃ t, (one x).2.1 = ba t ∧ Own (one x).1 t (TokW (one x).1 t) ∧ ((TokW (one x).1 t).length : Int) ≤ (one x).2.2.2.1 := by
  cases x with
  | nil => exact absurd rfl h0
  | cons c r =>
    simp only [List.length_cons] at hx
    have hr : r.length ≤ 100000 := by omega
    have h1 := one_eq c r hr
    have hl := sp_le nm r
    by_cases a1 : c = 40
    · subst a1
      have e : one (40 :: r) = (1, ba [40], 0, 1, 0) := (Option.some.inj (h1.symm.trans rfl))
      have e' : one [40] = (1, ba [40], 0, 1, 0) := (Option.some.inj ((one_eq 40 [] (by simp)).symm.trans rfl))
      rw [e]
      exact ⟨[40], rfl, ⟨sk_zero 40 [] bk40 (by decide) gd40, by simp [TokW], e'⟩, by simp [TokW]⟩
    by_cases a2 : c = 41
    · subst a2
      have e : one (41 :: r) = (2, ba [41], 0, 1, 0) := (Option.some.inj (h1.symm.trans rfl))
      have e' : one [41] = (2, ba [41], 0, 1, 0) := (Option.some.inj ((one_eq 41 [] (by simp)).symm.trans rfl))
      rw [e]
      exact ⟨[41], rfl, ⟨sk_zero 41 [] bk41 (by decide) gd41, by simp [TokW], e'⟩, by simp [TokW]⟩
    have simple_own : ∀ t : List UInt8, simpl t = true → t.length ≤ 100000 → Own 3 t t := by
      intro t ht htl
      cases t with
      | nil => simp [simpl] at ht
      | cons d u =>
        simp only [simpl, Bool.and_eq_true, Bool.not_eq_true', beq_iff_eq] at ht
        obtain ⟨hd, hs⟩ := ht
        have hdn : nm d = true := by
          by_cases z : nm d = true
          · exact z
          · simp only [sp, if_neg z, List.length_cons] at hs; omega
        have hsu : sp nm u = u.length := by simp only [sp, if_pos hdn, List.length_cons] at hs; omega
        obtain ⟨p1, p2, p3, p4, p5, p6, p7⟩ := nm_props d hdn
        have hu := one_eq d u (by simp only [List.length_cons] at htl; omega)
        unfold oneS at hu
        rw [if_neg p4, if_neg p5, if_neg p6, if_neg p7, if_neg (by rw [hd]; decide), if_pos hdn, hsu, List.take_of_length_le (by simp)] at hu
        refine ⟨sk_zero d u p1 p3 p2, by simp, ?_⟩
        rw [← Option.some.inj hu]; simp
    by_cases a3 : c = 124
    · subst a3
      have e : one (124 :: r) = barsS r := (Option.some.inj (h1.symm.trans rfl))
      rw [e] at he ⊢
      have hb := sp_le b1 r
      unfold barsS at he ⊢
      by_cases q1' : ¬ sp b1 r < r.length
      · rw [dif_neg q1'] at he; simp at he
      have q1' := Decidable.not_not.1 q1'
      rw [dif_pos q1'] at he ⊢
      by_cases q2 : ¬ r[sp b1 r] = 124
      · rw [if_neg q2] at he; simp at he
      have q2 := Decidable.not_not.1 q2
      rw [if_pos q2] at he ⊢
      by_cases q3 : 0 ≤ Lib.indexByte (r.take (sp b1 r)) 92
      · rw [if_pos q3] at he; simp at he
      rw [if_neg q3]
      refine ⟨r.take (sp b1 r), rfl, ?_⟩
      have htl : (r.take (sp b1 r)).length = sp b1 r := by rw [List.length_take]; omega
      have hst := sp_take b1 r
      generalize r.take (sp b1 r) = t at *
      by_cases hs : simpl t = true
      · have e2 : TokW 3 t = t := by unfold TokW; rw [if_neg (by rw [hs]; decide), if_neg (by decide)]
        simp only [e2]
        exact ⟨simple_own t hs (by omega), by omega⟩
      · have e2 : TokW 3 t = 124 :: (t ++ [124]) := by unfold TokW; rw [if_pos ⟨rfl, by simpa using hs⟩]
        simp only [e2]
        refine ⟨⟨sk_zero _ _ bk124 (by decide) gd124, by simp, ?_⟩, by simp; omega⟩
        have e3 : one (124 :: (t ++ [124])) = barsS (t ++ [124]) := (Option.some.inj ((one_eq 124 (t ++ [124]) (by simp; omega)).symm.trans rfl))
        have e4 : sp b1 (t ++ [124]) = t.length := by rw [sp_all b1 [124] t (by omega)]; simp [sp, b1124]
        rw [e3]
        unfold barsS
        rw [dif_pos (by rw [e4]; simp)]
        have e5 : (t ++ [124])[sp b1 (t ++ [124])]'(by rw [e4]; simp) = 124 := by simp [e4]
        rw [if_pos e5, e4, List.take_left', if_neg q3]
        · simp only [List.length_cons, List.length_append, List.length_nil]; push_cast; simp; omega
        · rfl
    by_cases a4 : c = 34
    · subst a4
      have e : one (34 :: r) = litS r := (Option.some.inj (h1.symm.trans rfl))
      rw [e] at he ⊢
      obtain ⟨v, hv, _⟩ := lit_some (r.length + 1) r 0 [] (by omega) (by omega)
      have ev : litS r = v := by unfold litS; rw [hv]; rfl
      rw [ev] at he ⊢
      obtain ⟨u, rfl, hu⟩ := lit_says _ _ _ _ v hv he
      simp only [List.nil_append]
      have e2 : TokW 6 u = 34 :: (dbl u ++ [34]) := by unfold TokW; rw [if_neg (fun z => absurd z.1 (by decide)), if_pos rfl]
      have hg := litS_good r
      rw [ev] at hg
      have hgl := hg.2.2.1
      simp only [Int.zero_add] at hgl
      have hdl := dbl_len u
      refine ⟨u, rfl, ?_⟩
      rw [e2]
      refine ⟨⟨sk_zero _ _ bk34 (by decide) gd34, by simp, ?_⟩, by simp; omega⟩
      have e3 : one (34 :: (dbl u ++ [34])) = litS (dbl u ++ [34]) := (Option.some.inj ((one_eq 34 (dbl u ++ [34]) (by simp; omega)).symm.trans rfl))
      rw [e3]
      unfold litS
      rw [lit_of_dbl u _ 0 [] hu (by simp; omega)]
      simp only [Option.getD_some, List.nil_append, List.length_cons, List.length_append, List.length_nil]
      push_cast; simp; omega
    -- what is written as it stands
    have ht : (c :: r).take (sp nm r + 1) = c :: r.take (sp nm r) := by rw [List.take_succ_cons]
    have hs := one_self c r hr a3 a4
    have htl : (c :: r.take (sp nm r)).length = sp nm r + 1 := by simp only [List.length_cons, List.length_take]; omega
    rw [ht] at h1
    unfold oneS at h1
    rw [if_neg a1, if_neg a2, if_neg a3, if_neg a4] at h1
    have asis : ∀ kd : Int, one (c :: r) = (kd, ba (c :: r.take (sp nm r)), 0, ((c :: r.take (sp nm r)).length : Int), 0) → (kd = 3 → simpl (c :: r.take (sp nm r)) = true) → kd ≠ 6 → bk c = false → c ≠ 59 → gd c = true →
        ∃ t, (one (c :: r)).2.1 = ba t ∧ Own (one (c :: r)).1 t (TokW (one (c :: r)).1 t) ∧ ((TokW (one (c :: r)).1 t).length : Int) ≤ (one (c :: r)).2.2.2.1 := by
      intro kd hk hk3 hk6 hb hc59 hg
      rw [hk]
      have e2 : TokW kd (c :: r.take (sp nm r)) = c :: r.take (sp nm r) := by
        unfold TokW
        rw [if_neg (fun z => by rw [hk3 z.1] at z; exact absurd z.2 (by decide)), if_neg hk6]
      refine ⟨_, rfl, ?_⟩
      rw [e2]
      exact ⟨⟨sk_zero _ _ hb hc59 hg, by simp, by rw [hs, hk]⟩, Int.le_refl _⟩
    by_cases a5 : dg c = true
    · rw [if_pos a5] at h1
      obtain ⟨k1, k2, k3, k4⟩ := numeral_ok _ (by omega) _ h1 he
      obtain ⟨p1, p2, p3, p4, p5, p6, p7⟩ := nm_props c (dg_nm c a5)
      refine asis (one (c :: r)).1 ?_ (by omega) (by omega) p1 p3 p2
      revert k2 k3 k4 he
      generalize one (c :: r) = O
      rintro he k2 k3 k4
      obtain ⟨o1, o2, o3, o4, o5⟩ := O
      simp only at he k2 k3 k4 ⊢
      rw [he, k2, k3, k4]
    rw [if_neg a5] at h1
    by_cases a6 : nm c = true
    · rw [if_pos a6] at h1
      obtain ⟨p1, p2, p3, p4, p5, p6, p7⟩ := nm_props c a6
      have hst := sp_take nm r
      refine asis 3 ?_ (fun _ => ?_) (by decide) p1 p3 p2
      · rw [htl, ← Option.some.inj h1]; simp
      · simp only [simpl, sp, if_pos a6, hst, List.length_cons, List.length_take]
        have : dg c = false := by simpa using a5
        rw [this]; simp; omega
    rw [if_neg a6] at h1
    by_cases a7 : c = 58 ∧ 0 < sp nm r
    · rw [if_pos a7] at h1
      refine asis 7 ?_ (fun z => absurd z (by decide)) (by decide) (by rw [a7.1]; exact bk58) (by rw [a7.1]; decide) (by rw [a7.1]; exact gd58)
      rw [htl, ← Option.some.inj h1]; simp
    rw [if_neg a7] at h1
    by_cases a8 : c = 35
    · rw [if_pos a8] at h1
      obtain ⟨b, hb, h1⟩ := Option.bind_eq_some_iff.1 h1
      cases b with
      | true =>
        rw [if_pos rfl] at h1
        refine asis 8 ?_ (fun z => absurd z (by decide)) (by decide) (by rw [a8]; exact bk35) (by rw [a8]; decide) (by rw [a8]; exact gd35)
        rw [htl, ← Option.some.inj h1]; simp
      | false => rw [if_neg (by decide)] at h1; rw [← Option.some.inj h1] at he; simp at he
    rw [if_neg a8] at h1
    split at h1
    · rw [← Option.some.inj h1] at he; simp at he
    · rw [← Option.some.inj h1] at he; simp at he
theorem Own.app {kd : Int} {t W : List UInt8} (h : Own kd t W) (b : UInt8) (hb : nm b = false) (h34 : b ≠ 34) (y : List UInt8) (hl : (W ++ b :: y).length ≤ 100000) : sk false (W ++ b :: y) = (0, false) ∧ one (W ++ b :: y) = (kd, ba t, 0, (W.length : Int), 0) := by
  obtain ⟨h1, h2, h3⟩ := h
  have hw : 0 < W.length := by cases W with | nil => exact absurd rfl h2 | cons => simp
  refine ⟨?_, ?_⟩
  · rw [sk_lt (b :: y) false W (by rw [h1]; exact hw), h1]
  · rw [one_appb b hb h34 W y h2 hl (by rw [h3]; exact (show (0 : Int) ≠ 51 by decide)), h3]
/-- Alone a token's text is that token. -/
theorem Own.lx {kd : Int} {t W : List UInt8} (h : Own kd t W) (f c a : Nat) (hf : W.length < f) (hc : c ≠ 4000) : X.lx f W c a = ([⟨kd, ba t, (a : Int)⟩], 0, ((a + W.length : Nat) : Int)) := by
  obtain ⟨h1, h2, h3⟩ := h
  have hw : 0 < W.length := by cases W with | nil => exact absurd rfl h2 | cons => simp
  obtain ⟨f, rfl⟩ : ∃ j, f = j + 1 := ⟨f - 1, by omega⟩
  obtain ⟨f, rfl⟩ : ∃ j, f = j + 1 := ⟨f - 1, by omega⟩
  rw [X.lx]
  simp only [h1, h3, List.drop_zero, Bool.false_eq_true, if_false, if_true, if_neg hc, Nat.zero_add, Int.toNat_natCast, Nat.add_zero]
  rw [if_neg (by omega), List.drop_length]
  simp [X.lx, sk]
/-- Just the token's text alone is it. -/
theorem own_of_lx (kd : Int) (t : List UInt8) (f c a : Nat) (hb : (TokW kd t).length ≤ 100000) (h : (X.lx f (TokW kd t) c a).1.map key = [(kd, ba t)]) : Own kd t (TokW kd t) := by
  cases f with
  | zero => simp [X.lx] at h
  | succ f =>
    have hle := sk_le false (TokW kd t)
    simp only [X.lx] at h
    by_cases h1 : (sk false (TokW kd t)).2 = true
    · rw [if_pos h1] at h; simp at h
    rw [if_neg h1] at h
    by_cases h2 : (sk false (TokW kd t)).1 = (TokW kd t).length
    · rw [if_pos h2] at h; simp at h
    rw [if_neg h2] at h
    by_cases h3 : c = 4000
    · rw [if_pos h3] at h; simp at h
    rw [if_neg h3] at h
    obtain ⟨hne, o1, o2, o3⟩ := one_at (TokW kd t) hb (by omega)
    by_cases h4 : (one ((TokW kd t).drop (sk false (TokW kd t)).1)).2.2.2.2 = 0
    · rw [if_pos h4] at h
      simp only [List.map_cons, List.cons.injEq, key, Prod.mk.injEq] at h
      obtain ⟨u, hu, ho, _⟩ := own_of_one _ hne (by rw [List.length_drop]; omega) h4
      have e1 := h.1.1
      have e2 : u = t := by
        have := hu.symm.trans h.1.2
        have := congrArg (fun z => z.data.toList) this
        simpa using this
      rw [e1, e2] at ho; exact ho
    · rw [if_neg h4] at h; simp at h
/-- Texts of tokens, with blanks behind. -/
def J (b : UInt8) : List (Int × List UInt8) → List UInt8
  | [] => []
  | p :: r => TokW p.1 p.2 ++ b :: J b r
theorem lx_J (b : UInt8) (hb : nm b = false) (h34 : b ≠ 34) (hbk : bk b = true) : ∀ (ts : List (Int × List UInt8)) (f c a : Nat), (∀ p ∈ ts, Own p.1 p.2 (TokW p.1 p.2)) → (J b ts).length < f → (J b ts).length ≤ 100000 → c + ts.length ≤ 4000 →
    (X.lx f (J b ts) c a).1.map key = ts.map (fun p => (p.1, ba p.2)) ∧ (X.lx f (J b ts) c a).2.1 = 0 ∧ (X.lx f (J b ts) c a).2.2 = ((a + (J b ts).length : Nat) : Int)
  | [], f, c, a, h, hf, hl, hc => by
    obtain ⟨f, rfl⟩ : ∃ j, f = j + 1 := ⟨f - 1, by omega⟩
    simp [J, X.lx, sk]
  | p :: r, f, c, a, h, hf, hl, hc => by
    obtain ⟨f, rfl⟩ : ∃ j, f = j + 1 := ⟨f - 1, by omega⟩
    have ho := h p List.mem_cons_self
    simp only [J] at hf hl ⊢
    have hw : 0 < (TokW p.1 p.2).length := by cases e : TokW p.1 p.2 with | nil => exact absurd e ho.2.1 | cons => simp
    obtain ⟨e1, e2⟩ := ho.app b hb h34 (J b r) hl
    simp only [List.length_append, List.length_cons] at hf hl hc
    have hd : (TokW p.1 p.2 ++ b :: J b r).drop (TokW p.1 p.2).length = b :: J b r := List.drop_left' rfl
    obtain ⟨f, rfl⟩ : ∃ j, f = j + 1 := ⟨f - 1, by omega⟩
    have hm := lx_merge [b] (J b r) f (c + 1) (a + (TokW p.1 p.2).length) (by simp only [List.singleton_append, sk, if_pos hbk, List.length_singleton])
    simp only [List.singleton_append, List.length_singleton] at hm
    have ih := lx_J b hb h34 hbk r (f + 1) (c + 1) (a + (TokW p.1 p.2).length + 1) (fun q hq => h q (List.mem_cons_of_mem _ hq)) (by omega) (by omega) (by omega)
    rw [X.lx]
    simp only [e1, e2, List.drop_zero, Bool.false_eq_true, if_false, if_true, Nat.zero_add, Int.toNat_natCast, Nat.add_zero]
    rw [if_neg (by simp only [List.length_append]; omega), if_neg (by omega), hd, hm]
    refine ⟨?_, ih.2.1, ?_⟩
    · simp only [List.map_cons, ih.1, key]
    · rw [ih.2.2]; simp only [List.length_append, List.length_cons]; congr 1; omega
/-- Each token of a script is one that can be written. -/
theorem lx_own : ∀ (f : Nat) (s : List UInt8) (c a : Nat), s.length ≤ 100000 → c ≤ 4000 →
    (∀ t ∈ (X.lx f s c a).1, Own t.f0 t.f1.data.toList (TokW t.f0 t.f1.data.toList)) ∧ ((X.lx f s c a).1.map (fun t => (TokW t.f0 t.f1.data.toList).length)).sum ≤ s.length ∧ c + (X.lx f s c a).1.length ≤ 4000
  | 0, s, c, a, hb, hc => by simp [X.lx]; exact hc
  | f + 1, s, c, a, hb, hc => by
    have hle := sk_le false s
    simp only [X.lx]
    by_cases h1 : (sk false s).2 = true
    · rw [if_pos h1]; simp; exact hc
    rw [if_neg h1]
    by_cases h2 : (sk false s).1 = s.length
    · rw [if_pos h2]; simp; exact hc
    rw [if_neg h2]
    by_cases h3 : c = 4000
    · rw [if_pos h3]; simp; exact hc
    rw [if_neg h3]
    obtain ⟨hne, o1, o2, o3⟩ := one_at s hb (by omega)
    by_cases h4 : (one (s.drop (sk false s).1)).2.2.2.2 = 0
    · have h5 := o3 h4
      rw [if_pos h4]
      obtain ⟨u, hu, ho, hul⟩ := own_of_one _ hne (by rw [List.length_drop]; omega) h4
      have ih := lx_own f (s.drop ((sk false s).1 + (one (s.drop (sk false s).1)).2.2.2.1.toNat)) (c + 1) (a + (sk false s).1 + (one (s.drop (sk false s).1)).2.2.2.1.toNat) (by rw [List.length_drop]; omega) (by omega)
      rw [List.length_drop] at ih
      refine ⟨fun t ht => ?_, ?_, ?_⟩
      · rcases List.mem_cons.1 ht with rfl | ht
        · simp only [hu]; exact ho
        · exact ih.1 t ht
      · simp only [List.map_cons, List.sum_cons, hu]
        have := ih.2.1
        omega
      · simp only [List.length_cons]; have := ih.2.2; omega
    · rw [if_neg h4]; simp; exact hc
end Go.Proofs.YtnpmmhceiaedcaaDoor.X
