import Derived.Test.YtjpcbflkgldokaaDoorLitA
import Derived.Test.YtjpcbflkgldokaaDoorPAx8
import Derived.Test.YtjpcbflkgldokaaDoorPAx9
/- lit's LitEscapes, as a plain statement: the reference writes code points as Escape does, and counts runs as Runs does. -/
namespace Go.Proofs.YtjpcbflkgldokaaDoor.S
set_option linter.unusedVariables false
set_option linter.unusedSimpArgs false
open Go.RowKit Go.Proofs.YtjpcbflkgldokaaDoor.PA Go.Proofs.YtjpcbflkgldokaaDoor.H Go.Proofs.YtjpcbflkgldokaaDoorW.PrintWords Go.Proofs.YtjpcbflkgldokaaDoorW.PrintLast

theorem refPoint_f (a : Int) : gudgeonref07_Point.f a = some (decide (0 ≤ a ∧ a ≤ 196607)) := by
  unfold gudgeonref07_Point.f
  by_cases h : a ≥ 0
  · rw [if_pos h]; congr 1; apply decide_eq_decide.2; omega
  · rw [if_neg h]; congr 1; exact (decide_eq_false (by omega)).symm
theorem litPoint_f (a : Int) : lit_point.f a = some (decide (0 ≤ a ∧ a ≤ 196607)) := by
  unfold lit_point.f
  by_cases h : a ≥ 0
  · rw [if_pos h]; congr 1; apply decide_eq_decide.2; omega
  · rw [if_neg h]; congr 1; exact (decide_eq_false (by omega)).symm
theorem hexdig (n : Nat) (h : n < 16) : (⟨#[48, 49, 50, 51, 52, 53, 54, 55, 56, 57, 97, 98, 99, 100, 101, 102]⟩ : ByteArray).extract n (n + 1) = ⟨#[hexd n]⟩ := by
  have a : ∀ n : Fin 16, ((⟨#[48, 49, 50, 51, 52, 53, 54, 55, 56, 57, 97, 98, 99, 100, 101, 102]⟩ : ByteArray).extract n.val (n.val + 1)).data.toList = [hexd n.val] := by decide
  exact ba_ext (a ⟨n, h⟩)
theorem refHex_ev (j : Nat) : ∀ n : Nat, n ≤ 196607 → n < 16 ^ j → 1 ≤ j → ∀ k, j ≤ k → gudgeonref07_hex.f k (n : Int) = some ⟨(hexF j n).toArray⟩ := by
  induction j with
  | zero => intro n _ _ hj; exact absurd hj (by decide)
  | succ j ih =>
    intro n hb hn hj k hk
    obtain ⟨k, rfl⟩ : ∃ m, k = m + 1 := ⟨k - 1, by omega⟩
    have hp : n / 16 < 16 ^ j := by rw [Nat.pow_succ] at hn; omega
    clear hn
    simp only [gudgeonref07_hex.f, hexF]
    by_cases h : n < 16
    · rw [if_pos (by omega), if_pos h, if_pos (by omega), w64 (by omega) (by omega), if_pos (by omega), if_pos (by omega), Int.toNat_natCast, show ((n : Int) + 1).toNat = n + 1 by omega, hexdig n h]
    · rw [if_neg (by omega), if_neg h]
      have hq : Int.tdiv (n : Int) 16 = ((n / 16 : Nat) : Int) := by rw [Int.tdiv_eq_ediv_of_nonneg (by omega)]; omega
      have hr : Int.tmod (n : Int) 16 = ((n % 16 : Nat) : Int) := by rw [Int.tmod_eq_emod_of_nonneg (by omega)]; omega
      have hj1 : 1 ≤ j := by
        rcases Nat.eq_zero_or_pos j with h0 | h0
        · subst h0; rw [Nat.pow_zero] at hp; omega
        · exact h0
      have e := ih (n / 16) (by omega) hp hj1 k (by omega)
      rw [hq, hr, w64 (by omega) (by omega), e, Option.bind_some]
      have hl5 := hexF_short 5 j (n / 16) (by omega) (by omega)
      have hz : (⟨(hexF j (n / 16)).toArray⟩ : ByteArray).size ≤ 5 := by rw [ba_size]; exact hl5
      rw [if_pos (by omega), w64 (by omega) (by omega), if_pos (by omega), if_pos (by omega), if_pos (by omega), Int.toNat_natCast, show (((n % 16 : Nat) : Int) + 1).toNat = n % 16 + 1 by omega, hexdig (n % 16) (by omega)]
      exact congrArg some (ba_ext (by simp))
theorem refHex_f (c : Int) (h : 0 ≤ c ∧ c ≤ 196607) (k : Nat) (hk : 8 ≤ k) : gudgeonref07_hex.f k c = some ⟨(hexF 8 c.toNat).toArray⟩ := by
  have := refHex_ev 8 c.toNat (by omega) (by omega) (by omega) k hk
  rwa [show ((c.toNat : Nat) : Int) = c by omega] at this
theorem strOf1 (c : Int) (h : 0 ≤ c ∧ c ≤ 255) : strOfNums [c % 256] = ⟨#[UInt8.ofNat c.toNat]⟩ := by
  rw [Int.emod_eq_of_lt (by omega) (by omega)]
  rfl
theorem escL_append (a b : List Int) : escL (a ++ b) = (escL a).bind fun x => (escL b).map fun y => x ++ y := by
  induction a with
  | nil => simp [escL]
  | cons c a ih =>
    simp only [List.cons_append, escL, ih]
    cases escB c <;> simp
    cases escL a <;> simp
    cases escL b <;> simp
/-- The reference's loop: it holds what is written so far. -/
theorem refEscape_l0 (l : List Int) (hL : l.length ≤ 2000) (d : Nat) : ∀ (i : Nat) (x : List UInt8), i + d = l.length → x.length ≤ 12 * i →
    Ev (fun k => gudgeonref07_Escape.l0 k l ⟨x.toArray⟩ (i : Int)) (match escL (l.drop i) with | some y => (⟨(x ++ y).toArray⟩, 0) | none => (⟨#[]⟩, 1)) := by
  induction d with
  | zero =>
    intro i x hi hx
    refine Ev.step (f := fun _ => some (⟨x.toArray⟩, 0)) (fun k => ?_) ?_
    · simp only [gudgeonref07_Escape.l0]
      rw [if_neg (by omega)]
    · rw [List.drop_eq_nil_of_le (by omega)]
      simp only [escL, List.append_nil]
      exact Ev.now _
  | succ d ih =>
    intro i x hi hx
    have hlt : i < l.length := by omega
    have hdrop : l.drop i = l[i] :: l.drop (i + 1) := List.drop_eq_getElem_cons hlt
    have hrd := rd_nat l i hlt
    obtain ⟨c, hc⟩ : ∃ c, l[i] = c := ⟨_, rfl⟩
    rw [hc] at hdrop hrd
    have hz : (⟨x.toArray⟩ : ByteArray).size = x.length := ba_size x
    rw [hdrop]
    simp only [escL]
    have hw : wrap64 ((i : Int) + 1) = ((i + 1 : Nat) : Int) := by rw [w64 (by omega) (by omega)]; omega
    by_cases hp : 0 ≤ c ∧ c ≤ 196607
    · have hx8 := hexF_len 8 c.toNat
      have hhs : (⟨(hexF 8 c.toNat).toArray⟩ : ByteArray).size = (hexF 8 c.toNat).length := ba_size _
      -- a number written by its number
      have hcat : (((⟨x.toArray⟩ : ByteArray) ++ (⟨#[92, 117, 123]⟩ : ByteArray)) ++ (⟨(hexF 8 c.toNat).toArray⟩ : ByteArray)) ++ (⟨#[125]⟩ : ByteArray) = ⟨(x ++ ([92, 117, 123] ++ hexF 8 c.toNat ++ [125])).toArray⟩ := ba_ext (by simp)
      by_cases hq : 32 ≤ c ∧ c ≤ 126 ∧ c ≠ 92
      · have he : escB c = some [UInt8.ofNat c.toNat] := by unfold escB; rw [if_pos hp, if_pos hq]
        obtain ⟨K, hK⟩ := ih (i + 1) (x ++ [UInt8.ofNat c.toNat]) (by omega) (by simp; omega)
        rw [he]
        refine ⟨K + 1, fun k hk => ?_⟩
        obtain ⟨k, rfl⟩ : ∃ m, k = m + 1 := ⟨k - 1, by omega⟩
        simp only [gudgeonref07_Escape.l0]
        rw [if_pos (by omega), if_pos (by omega), hrd, refPoint_f, decide_eq_true hp]
        simp only [Option.bind_some, if_true]
        rw [if_pos (by omega), if_pos (by omega), if_neg (by omega), strOf1 c (by omega), if_pos (by rw [hz]; show x.length + 1 ≤ _; omega), hw]
        have e : (⟨x.toArray⟩ : ByteArray) ++ (⟨#[UInt8.ofNat c.toNat]⟩ : ByteArray) = ⟨(x ++ [UInt8.ofNat c.toNat]).toArray⟩ := ba_ext (by simp)
        rw [e]
        refine (hK k (by omega)).trans ?_
        cases escL (l.drop (i + 1)) <;> simp
      · have he : escB c = some ([92, 117, 123] ++ hexF 8 c.toNat ++ [125]) := by unfold escB; rw [if_pos hp, if_neg hq]
        obtain ⟨K, hK⟩ := ih (i + 1) (x ++ ([92, 117, 123] ++ hexF 8 c.toNat ++ [125])) (by omega) (by simp; omega)
        rw [he]
        refine ⟨max K 8 + 1, fun k hk => ?_⟩
        obtain ⟨k, rfl⟩ : ∃ m, k = m + 1 := ⟨k - 1, by omega⟩
        have tail : (if (⟨x.toArray⟩ : ByteArray).size + 3 ≤ 9223372036854775807 then ((gudgeonref07_hex.f k c).bind fun t208 => (if (⟨x.toArray⟩ : ByteArray).size + 3 + t208.size ≤ 9223372036854775807 then (if (⟨x.toArray⟩ : ByteArray).size + 3 + t208.size + 1 ≤ 9223372036854775807 then (gudgeonref07_Escape.l0 k l ((((⟨x.toArray⟩ : ByteArray) ++ (⟨#[92, 117, 123]⟩ : ByteArray)) ++ t208) ++ (⟨#[125]⟩ : ByteArray)) ((i + 1 : Nat) : Int)) else (none)) else (none))) else (none)) =
            some (match (Option.map (fun y => ([92, 117, 123] ++ hexF 8 c.toNat ++ [125]) ++ y) (escL (l.drop (i + 1)))) with | some y => ((⟨(x ++ y).toArray⟩ : ByteArray), (0 : Int)) | none => (⟨#[]⟩, 1)) := by
          rw [if_pos (by omega), refHex_f c hp k (by omega)]
          simp only [Option.bind_some]
          rw [if_pos (by omega), if_pos (by omega), hcat]
          refine (hK k (by omega)).trans ?_
          cases escL (l.drop (i + 1)) <;> simp
        simp only [gudgeonref07_Escape.l0]
        rw [if_pos (by omega), if_pos (by omega), hrd, refPoint_f, decide_eq_true hp]
        simp only [Option.bind_some, if_true]
        rw [hw]
        by_cases h1 : c ≥ 32
        · rw [if_pos h1]
          by_cases h2 : c < 127
          · rw [if_pos h2, if_pos (by omega)]
            exact tail
          · rw [if_neg h2]
            exact tail
        · rw [if_neg h1]
          exact tail
    · have he : escB c = none := by unfold escB; rw [if_neg hp]
      rw [he]
      refine Ev.step (f := fun _ => some (⟨#[]⟩, 1)) (fun k => ?_) (Ev.now _)
      simp only [gudgeonref07_Escape.l0]
      rw [if_pos (by omega), if_pos (by omega), hrd, refPoint_f, decide_eq_false hp]
      simp only [Option.bind_some]
      rw [if_neg (by decide)]
theorem refEscape_ev (l : List Int) (hL : l.length ≤ 2000) : Ev (fun k => gudgeonref07_Escape.f k l) (match escL l with | some y => (⟨y.toArray⟩, 0) | none => (⟨#[]⟩, 1)) := by
  have := refEscape_l0 l hL l.length 0 [] (by omega) (by simp)
  simpa [gudgeonref07_Escape.f] using this

/-! ### Runs -/
theorem rdT_nat (l : List S41) (i : Nat) (h : i < l.length) : rd_T41 l (i : Int) = l[i] := by
  unfold rd_T41
  simp [h]
/-- One more number behind runs. -/
def runStep (r : List S41) (c : Int) : List S41 :=
  match r.reverse with
  | [] => r ++ [⟨c, 1⟩]
  | z :: m => if z.f0 = c then m.reverse ++ [⟨z.f0, wrap64 (z.f1 + 1)⟩] else r ++ [⟨c, 1⟩]
theorem runStep_nil (c : Int) : runStep [] c = [⟨c, 1⟩] := rfl
theorem runStep_snoc (r : List S41) (z : S41) (c : Int) : runStep (r ++ [z]) c = if z.f0 = c then r ++ [⟨z.f0, wrap64 (z.f1 + 1)⟩] else r ++ [z] ++ [⟨c, 1⟩] := by
  unfold runStep
  rw [List.reverse_append]
  simp only [List.reverse_cons, List.reverse_nil, List.nil_append, List.singleton_append, List.reverse_reverse]
def runsF : List S41 → List Int → Option (List S41)
  | r, [] => some r
  | r, c :: l => if 0 ≤ c ∧ c ≤ 196607 then runsF (runStep r c) l else none
theorem runStep_len (r : List S41) (c : Int) : (runStep r c).length ≤ r.length + 1 ∧ r.length ≤ (runStep r c).length ∧ 1 ≤ (runStep r c).length := by
  rcases List.eq_nil_or_concat r with rfl | ⟨m, z, rfl⟩
  · simp [runStep_nil]
  · rw [List.concat_eq_append, runStep_snoc]
    split <;> simp
theorem runStep_last (r : List S41) (c : Int) : ∃ m n, runStep r c = m ++ [⟨c, n⟩] := by
  rcases List.eq_nil_or_concat r with rfl | ⟨m, z, rfl⟩
  · exact ⟨[], 1, by simp [runStep_nil]⟩
  · rw [List.concat_eq_append, runStep_snoc]
    split
    · rename_i h; exact ⟨m, wrap64 (z.f1 + 1), by rw [h]⟩
    · exact ⟨m ++ [z], 1, rfl⟩
def runsR (o : Option (List S41)) : List S41 × Int := match o with | some r => if (r.length : Int) > 65536 then ([], 2) else (r, 0) | none => ([], 1)
theorem litRuns_l0 (l : List Int) (hL : l.length ≤ 2000) (d : Nat) : ∀ (i : Nat) (r : List S41), i + d = l.length → r.length ≤ i →
    Ev (fun k => lit_Runs.l0 k r l (l.length : Int) (i : Int)) (runsR (runsF r (l.drop i))) := by
  induction d with
  | zero =>
    intro i r hi hr
    refine Ev.step (f := fun _ => some (r, 0)) (fun k => ?_) ?_
    · simp only [lit_Runs.l0]
      rw [if_neg (by omega), if_neg (by omega)]
    · rw [List.drop_eq_nil_of_le (by omega)]
      simp only [runsF, runsR]
      rw [if_neg (by omega)]
      exact Ev.now _
  | succ d ih =>
    intro i r hi hr
    have hlt : i < l.length := by omega
    have hdrop : l.drop i = l[i] :: l.drop (i + 1) := List.drop_eq_getElem_cons hlt
    have hrd := rd_nat l i hlt
    obtain ⟨c, hc⟩ : ∃ c, l[i] = c := ⟨_, rfl⟩
    rw [hc] at hdrop hrd
    rw [hdrop]
    simp only [runsF]
    have hw : wrap64 ((i : Int) + 1) = ((i + 1 : Nat) : Int) := by rw [w64 (by omega) (by omega)]; omega
    have HW := Aside0.mk hw
    clear hw
    by_cases hp : 0 ≤ c ∧ c ≤ 196607
    · rw [if_pos hp]
      have hsl := runStep_len r c
      refine Ev.step (f := fun k => lit_Runs.l0 k (runStep r c) l (l.length : Int) ((i + 1 : Nat) : Int)) (fun k => ?_) (ih (i + 1) (runStep r c) (by omega) (by omega))
      simp only [lit_Runs.l0]
      rw [if_pos (by omega), if_pos (by omega), if_pos (by omega), hrd, litPoint_f, decide_eq_true hp]
      simp only [Option.bind_some, if_true]
      rw [HW.out]
      rcases List.eq_nil_or_concat r with rfl | ⟨m, z, rfl⟩
      · rw [if_neg (by rw [List.length_nil, w64 (by omega) (by omega)]; omega), if_pos (by simp), runStep_nil]
        rfl
      · rw [List.concat_eq_append] at hr ⊢
        rw [runStep_snoc]
        rw [List.length_append, List.length_cons, List.length_nil] at hr
        have hwm : wrap64 (((m ++ [z]).length : Int) - 1) = (m.length : Int) := by
          rw [List.length_append, List.length_cons, List.length_nil, w64 (by omega) (by omega)]; omega
        have hml : (m ++ [z]).length = m.length + 1 := by simp
        have hrt : rd_T41 (m ++ [z]) (m.length : Int) = z := by rw [rdT_nat _ _ (by omega)]; simp
        rw [hwm, if_pos (by omega), if_pos (by omega), if_pos (by omega), hrt]
        by_cases he : z.f0 = c
        · rw [if_pos he, if_pos he, Int.toNat_natCast]
          congr 1
          simp
        · rw [if_neg he, if_neg he, if_pos (by omega)]
    · rw [if_neg hp]
      refine Ev.step (f := fun _ => some ([], 1)) (fun k => ?_) (Ev.now _)
      simp only [lit_Runs.l0]
      rw [if_pos (by omega), if_pos (by omega), if_pos (by omega), hrd, litPoint_f, decide_eq_false hp]
      simp only [Option.bind_some]
      rw [if_neg (by decide)]
theorem litRuns_ev (l : List Int) (hL : l.length ≤ 2000) : Ev (fun k => lit_Runs.f k l) (runsR (runsF [] l)) := by
  have := litRuns_l0 l hL l.length 0 [] (by omega) (by simp)
  simpa [lit_Runs.f] using this
theorem refRuns_l0 (l : List Int) (hL : l.length ≤ 2000) (d : Nat) : ∀ (i : Nat) (r : List S41), i + d = l.length → r.length ≤ i → (i = 0 → r = []) → (∀ j, i = j + 1 → ∀ h : j < l.length, ∃ m n, r = m ++ [⟨l[j], n⟩]) →
    Ev (fun k => gudgeonref07_Runs.l0 k l r (i : Int)) (runsR (runsF r (l.drop i))) := by
  induction d with
  | zero =>
    intro i r hi hr _ _
    refine Ev.step (f := fun _ => some (r, 0)) (fun k => ?_) ?_
    · simp only [gudgeonref07_Runs.l0]
      rw [if_neg (by omega), if_neg (by omega)]
    · rw [List.drop_eq_nil_of_le (by omega)]
      simp only [runsF, runsR]
      rw [if_neg (by omega)]
      exact Ev.now _
  | succ d ih =>
    intro i r hi hr h0 h1
    have hlt : i < l.length := by omega
    have hdrop : l.drop i = l[i] :: l.drop (i + 1) := List.drop_eq_getElem_cons hlt
    have hrd := rd_nat l i hlt
    obtain ⟨c, hc⟩ : ∃ c, l[i] = c := ⟨_, rfl⟩
    rw [hc] at hdrop hrd
    rw [hdrop]
    simp only [runsF]
    have hw : wrap64 ((i : Int) + 1) = ((i + 1 : Nat) : Int) := by rw [w64 (by omega) (by omega)]; omega
    have HW := Aside0.mk hw
    clear hw
    by_cases hp : 0 ≤ c ∧ c ≤ 196607
    · rw [if_pos hp]
      have hsl := runStep_len r c
      refine Ev.step (f := fun k => gudgeonref07_Runs.l0 k l (runStep r c) ((i + 1 : Nat) : Int)) (fun k => ?_) (ih (i + 1) (runStep r c) (by omega) (by omega) (by omega) (by
        intro j hj h
        obtain rfl : i = j := by omega
        rw [hc]
        exact runStep_last r c))
      simp only [gudgeonref07_Runs.l0]
      rw [if_pos (by omega), if_pos (by omega), hrd, refPoint_f, decide_eq_true hp]
      simp only [Option.bind_some, if_true]
      rw [HW.out]
      rcases Nat.eq_zero_or_pos i with hz | hz
      · rw [if_neg (by omega), h0 hz, if_pos (by simp), runStep_nil]
        rfl
      · obtain ⟨j, rfl⟩ : ∃ j, i = j + 1 := ⟨i - 1, by omega⟩
        obtain ⟨m, n, hrm⟩ := h1 j rfl (by omega)
        clear hsl h0 h1 ih
        rw [hrm] at hr ⊢
        rw [List.length_append, List.length_cons, List.length_nil] at hr
        have hwj : wrap64 (((j + 1 : Nat) : Int) - 1) = (j : Int) := by rw [w64 (by omega) (by omega)]; omega
        have HWJ := Aside0.mk hwj
        clear hwj
        have hml : (m ++ [(⟨l[j], n⟩ : S41)]).length = m.length + 1 := by simp
        have hwm : wrap64 (((m ++ [(⟨l[j], n⟩ : S41)]).length : Int) - 1) = (m.length : Int) := by
          rw [hml, w64 (by omega) (by omega)]; omega
        have HWM := Aside0.mk hwm
        clear hwm
        have hrt : rd_T41 (m ++ [(⟨l[j], n⟩ : S41)]) (m.length : Int) = ⟨l[j], n⟩ := by rw [rdT_nat _ _ (by omega)]; simp
        rw [runStep_snoc, if_pos (by omega), HWJ.out, if_pos (by omega), if_pos (by omega), rd_nat l j (by omega)]
        by_cases he : l[j] = c
        · rw [if_pos he, HWM.out, if_pos (by omega), if_pos (by omega), hrt, Int.toNat_natCast]
          simp only [if_pos he]
          congr 1
          simp
        · rw [if_neg he, if_pos (by omega)]
          simp only [if_neg he]
    · rw [if_neg hp]
      refine Ev.step (f := fun _ => some ([], 1)) (fun k => ?_) (Ev.now _)
      simp only [gudgeonref07_Runs.l0]
      rw [if_pos (by omega), if_pos (by omega), hrd, refPoint_f, decide_eq_false hp]
      simp only [Option.bind_some]
      rw [if_neg (by decide)]
theorem refRuns_ev (l : List Int) (hL : l.length ≤ 2000) : Ev (fun k => gudgeonref07_Runs.f k l) (runsR (runsF [] l)) := by
  have := refRuns_l0 l hL l.length 0 [] (by omega) (by simp) (fun _ => rfl) (fun j hj => by omega)
  simpa [gudgeonref07_Runs.f] using this
theorem texts_l0 (a : List S41) (ha : a.length ≤ 140737488351232) (d : Nat) : ∀ i : Nat, i + d = a.length → Ev (fun k => gudgeonref07_Texts.l0 k a a (i : Int)) true := by
  induction d with
  | zero =>
    intro i hi
    refine Ev.step (f := fun _ => some true) (fun k => ?_) (Ev.now _)
    simp only [gudgeonref07_Texts.l0]
    rw [if_neg (by omega)]
  | succ d ih =>
    intro i hi
    refine Ev.step (f := fun k => gudgeonref07_Texts.l0 k a a ((i + 1 : Nat) : Int)) (fun k => ?_) (ih (i + 1) (by omega))
    simp only [gudgeonref07_Texts.l0]
    rw [if_pos (by omega), if_pos (by omega), if_pos (by omega), w64 (by omega) (by omega)]
    simp
theorem texts_ev (a : List S41) (ha : a.length ≤ 140737488351232) : Ev (fun k => gudgeonref07_Texts.f k a a) true := by
  have := texts_l0 a ha a.length 0 (by omega)
  simpa [gudgeonref07_Texts.f] using this
theorem runsR_len (l : List Int) : ∀ r : List S41, (runsR (runsF r l)).1.length ≤ r.length + l.length := by
  induction l with
  | nil =>
    intro r
    simp only [runsF, runsR]
    split <;> simp
  | cons c l ih =>
    intro r
    simp only [runsF]
    split
    · have := ih (runStep r c)
      have h2 := runStep_len r c
      simp only [List.length_cons]
      omega
    · simp [runsR]
theorem LitEscapes : gudgeonlaw07_LitEscapes.Pure := by
  intro l _ _ _
  refine Ev.rounds ?_
  unfold gudgeonlaw07_LitEscapes.f
  refine Ev.bind awake_ev ?_
  simp only [if_true]
  by_cases h2 : (l.length : Int) > 2000
  · refine Ev.step (f := fun _ => some true) (fun k => ?_) (Ev.now _)
    simp only [gudgeonlaw07_LitEscapes.j0]
    rw [if_pos (decide_eq_true h2)]
  · simp only [decide_eq_false h2]
    have hl : l.length ≤ 2000 := by omega
    refine Ev.step (f := fun k => ((lit_Escape.f l).bind fun bt242 => ((gudgeonref07_Escape.f k l).bind fun bt244 => ((lit_Runs.f k l).bind fun bt246 => ((gudgeonref07_Runs.f k l).bind fun bt250 => ((gudgeonref07_Texts.f k bt246.1 bt250.1).bind fun t254 => (if t254 = true then (if bt242.1.toList = bt244.1.toList then (if bt242.2 = bt244.2 then (some (bt246.2 == bt250.2)) else (some false)) else (some false)) else (some false)))))))) (fun k => ?_) ?_
    · simp only [gudgeonlaw07_LitEscapes.j0]
      rw [if_neg (by decide)]
    · rw [escape_f l (by omega)]
      simp only [Option.bind_some]
      have hr := runsR_len l []
      rw [List.length_nil] at hr
      refine Ev.bind (refEscape_ev l hl) (Ev.bind (litRuns_ev l hl) (Ev.bind (refRuns_ev l hl) (Ev.bind (texts_ev _ (by omega)) ?_)))
      cases escL l <;> simp only [if_true, beq_self_eq_true] <;> exact Ev.now _
end Go.Proofs.YtjpcbflkgldokaaDoor.S
