import Derived.Test.YtjpcbflkgldokaaDoorLitC
import Derived.Test.YtjpcbflkgldokaaDoorPAx10
import Derived.Test.YtjpcbflkgldokaaDoorPAx11
import Derived.Test.YtjpcbflkgldokaaDoorPAx12
/- lit's LitLists and LitTextBack, as plain statements. -/
namespace Go.Proofs.YtjpcbflkgldokaaDoor.S
set_option linter.unusedVariables false
set_option linter.unusedSimpArgs false
set_option linter.unusedSectionVars false
open Go.RowKit Go.Proofs.YtjpcbflkgldokaaDoor.PA Go.Proofs.YtjpcbflkgldokaaDoor.H Go.Proofs.YtjpcbflkgldokaaDoorW.PrintWords Go.Proofs.YtjpcbflkgldokaaDoorW.PrintLast

/-- A run that may be. -/
def okR (r : S41) : Prop := (0 ≤ r.f0 ∧ r.f0 ≤ 196607) ∧ 1 ≤ r.f1
instance (r : S41) : Decidable (okR r) := by unfold okR; infer_instance
def good (rs : List S41) : Bool := rs.all fun r => decide (okR r)
def flat : List S41 → List Int
  | [] => []
  | r :: rs => List.replicate r.f1.toNat r.f0 ++ flat rs
theorem flat_append (a b : List S41) : flat (a ++ b) = flat a ++ flat b := by
  induction a with
  | nil => rfl
  | cons r a ih => simp only [List.cons_append, flat, ih, List.append_assoc]
def listR (rs : List S41) (m : Int) : List Int × Int :=
  if good rs = true then (if ((flat rs).length : Int) ≤ m then (flat rs, 0) else ([], 2)) else ([], 1)
theorem good_at {rs : List S41} (h : good rs = true) (i : Nat) (hi : i < rs.length) : okR rs[i] := by
  have := List.all_eq_true.1 h rs[i] (List.getElem_mem hi)
  exact of_decide_eq_true this
section
variable (rs : List S41) (hL : rs.length ≤ 2000)
include hL
theorem list_l2 (m : Int) (r : S41) (hm : m ≤ 5000) (hr : 1 ≤ r.f1) (hr5 : r.f1 ≤ 5000) (i : Nat) (R : List Int × Int) (d : Nat) : ∀ (j : Nat) (acc : List Int), (j : Int) + d = r.f1 → (acc.length : Int) + d ≤ m →
    Ev (fun k => lit_List.l1 k m (acc ++ List.replicate d r.f0) rs (rs.length : Int) (wrap64 ((i : Int) + 1))) R →
    Ev (fun k => lit_List.l2 k m acc rs (rs.length : Int) (i : Int) r.f1 (j : Int) r.f0 r.f1) R := by
  induction d with
  | zero =>
    intro j acc hj ha h
    rw [List.replicate_zero, List.append_nil] at h
    refine Ev.step (f := fun k => lit_List.l1 k m acc rs (rs.length : Int) (wrap64 ((i : Int) + 1))) (fun k => ?_) h
    simp only [lit_List.l2]
    rw [if_neg (by omega)]
  | succ d ih =>
    intro j acc hj ha h
    have e : acc ++ List.replicate (d + 1) r.f0 = (acc ++ [r.f0]) ++ List.replicate d r.f0 := by simp [List.replicate_succ]
    rw [e] at h
    refine Ev.step (f := fun k => lit_List.l2 k m (acc ++ [r.f0]) rs (rs.length : Int) (i : Int) r.f1 ((j + 1 : Nat) : Int) r.f0 r.f1) (fun k => ?_) (ih (j + 1) (acc ++ [r.f0]) (by omega) (by simp; omega) h)
    simp only [lit_List.l2]
    rw [if_pos (by omega), if_pos (by omega), w64 (by omega) (by omega)]
    rfl
theorem list_l1 (m : Int) (hm0 : -9223372036854775808 ≤ m) (hm : m ≤ 5000) (hg : good rs = true) (d : Nat) : ∀ (i : Nat) (acc : List Int), i + d = rs.length → (acc = [] ∨ (acc.length : Int) ≤ m) →
    Ev (fun k => lit_List.l1 k m acc rs (rs.length : Int) (i : Int)) (if (acc.length : Int) + (flat (rs.drop i)).length ≤ m then (acc ++ flat (rs.drop i), 0) else ([], 2)) := by
  induction d with
  | zero =>
    intro i acc hi ha
    rw [List.drop_eq_nil_of_le (by omega)]
    simp only [flat, List.append_nil, List.length_nil]
    refine Ev.step (f := fun _ => some (if (acc.length : Int) + (0 : Nat) ≤ m then (acc, 0) else ([], 2))) (fun k => ?_) (Ev.now _)
    simp only [lit_List.l1]
    rw [if_neg (by omega)]
    by_cases h : m < 0
    · rw [if_pos h, if_neg (by omega)]
    · rw [if_neg h, if_pos]
      rcases ha with rfl | ha
      · simp; omega
      · omega
  | succ d ih =>
    intro i acc hi ha
    have hlt : i < rs.length := by omega
    have hdrop : rs.drop i = rs[i] :: rs.drop (i + 1) := List.drop_eq_getElem_cons hlt
    have hok := good_at hg i hlt
    have hrd := rdT_nat rs i hlt
    obtain ⟨r, hr⟩ : ∃ r, rs[i] = r := ⟨_, rfl⟩
    rw [hr] at hdrop hok hrd
    obtain ⟨hp, h1⟩ := hok
    rw [hdrop]
    simp only [flat, List.length_append, List.length_replicate]
    have hal : (acc.length : Int) ≤ 5000 := by
      rcases ha with rfl | ha
      · simp
      · omega
    have hwx : wrap64 (m - (acc.length : Int)) = m - acc.length := w64 (by
      rcases ha with rfl | ha
      · simp; omega
      · omega) (by omega)
    have HWX := Aside0.mk hwx
    clear hwx
    by_cases hbig : r.f1 > m - acc.length
    · rw [if_neg (by omega)]
      refine Ev.step (f := fun _ => some ([], 2)) (fun k => ?_) (Ev.now _)
      simp only [lit_List.l1]
      rw [if_pos (by omega), if_pos (by omega), if_pos (by omega), hrd, HWX.out, if_pos hbig]
    · have hw : wrap64 ((i : Int) + 1) = ((i + 1 : Nat) : Int) := by rw [w64 (by omega) (by omega)]; omega
      have IH := ih (i + 1) (acc ++ List.replicate r.f1.toNat r.f0) (by omega) (Or.inr (by simp; omega))
      rw [← hw] at IH
      have h2 := list_l2 rs hL m r hm h1 (by omega) i _ r.f1.toNat 0 acc (by omega) (by omega) IH
      have heq : (if ((acc ++ List.replicate r.f1.toNat r.f0).length : Int) + (flat (rs.drop (i + 1))).length ≤ m then ((acc ++ List.replicate r.f1.toNat r.f0) ++ flat (rs.drop (i + 1)), (0 : Int)) else ([], 2)) = (if (acc.length : Int) + ((r.f1.toNat + (flat (rs.drop (i + 1))).length : Nat) : Int) ≤ m then (acc ++ (List.replicate r.f1.toNat r.f0 ++ flat (rs.drop (i + 1))), (0 : Int)) else ([], 2)) := by
        rw [List.length_append, List.length_replicate, List.append_assoc]
        by_cases hh : (acc.length : Int) + ((r.f1.toNat + (flat (rs.drop (i + 1))).length : Nat) : Int) ≤ m
        · rw [if_pos hh, if_pos (by omega)]
        · rw [if_neg hh, if_neg (by omega)]
      rw [heq] at h2
      refine Ev.step (f := fun k => lit_List.l2 k m acc rs (rs.length : Int) (i : Int) r.f1 0 r.f0 r.f1) (fun k => ?_) h2
      simp only [lit_List.l1]
      rw [if_pos (by omega), if_pos (by omega), if_pos (by omega), hrd, HWX.out, if_neg hbig]
theorem list_l0 (m : Int) (hm0 : -9223372036854775808 ≤ m) (hm : m ≤ 5000) (d : Nat) : ∀ i : Nat, i + d = rs.length → (∀ j (h : j < rs.length), j < i → okR rs[j]) →
    Ev (fun k => lit_List.l0 k rs m rs (rs.length : Int) (i : Int)) (listR rs m) := by
  induction d with
  | zero =>
    intro i hi hj
    have hg : good rs = true := List.all_eq_true.2 fun r hr => by
      obtain ⟨j, h, rfl⟩ := List.getElem_of_mem hr
      exact decide_eq_true (hj j h (by omega))
    have h1 := list_l1 rs hL m hm0 hm hg rs.length 0 [] (by omega) (Or.inl rfl)
    have e : listR rs m = (if (([] : List Int).length : Int) + (flat (rs.drop 0)).length ≤ m then (([] : List Int) ++ flat (rs.drop 0), 0) else ([], 2)) := by
      unfold listR
      rw [if_pos hg, List.drop_zero, List.nil_append]
      by_cases h : ((flat rs).length : Int) ≤ m
      · rw [if_pos h, if_pos (by simp; omega)]
      · rw [if_neg h, if_neg (by simp; omega)]
    rw [e]
    refine Ev.step (f := fun k => lit_List.l1 k m [] rs (rs.length : Int) 0) (fun k => ?_) h1
    simp only [lit_List.l0]
    rw [if_neg (by omega)]
  | succ d ih =>
    intro i hi hj
    have hlt : i < rs.length := by omega
    have hrd := rdT_nat rs i hlt
    by_cases hok : okR rs[i]
    · refine Ev.step (f := fun k => lit_List.l0 k rs m rs (rs.length : Int) ((i + 1 : Nat) : Int)) (fun k => ?_) (ih (i + 1) (by omega) (fun j h hlt' => by
        by_cases e : j = i
        · subst e; exact hok
        · exact hj j h (by omega)))
      obtain ⟨hp, h1⟩ := hok
      simp only [lit_List.l0]
      rw [if_pos (by omega), if_pos (by omega), if_pos (by omega), hrd, litPoint_f, decide_eq_true hp, Option.bind_some, if_pos rfl, if_neg (by omega), w64 (by omega) (by omega)]
      rfl
    · have hg : ¬ good rs = true := fun h => hok (good_at h i hlt)
      unfold listR
      rw [if_neg hg]
      refine Ev.step (f := fun _ => some ([], 1)) (fun k => ?_) (Ev.now _)
      simp only [lit_List.l0]
      rw [if_pos (by omega), if_pos (by omega), if_pos (by omega), hrd, litPoint_f, Option.bind_some]
      by_cases hp : 0 ≤ rs[i].f0 ∧ rs[i].f0 ≤ 196607
      · rw [decide_eq_true hp, if_pos rfl, if_pos]
        apply Int.not_le.1
        intro h
        exact hok ⟨hp, by omega⟩
      · rw [decide_eq_false hp, if_neg (by decide)]
theorem list_ev (m : Int) (hm0 : -9223372036854775808 ≤ m) (hm : m ≤ 5000) : Ev (fun k => lit_List.f k rs m) (listR rs m) :=
  list_l0 rs hL m hm0 hm rs.length 0 (by omega) (fun j h hj => absurd hj (by omega))

/-! ### The reference's List -/
theorem refList_l3 (i : Nat) (hi : i < rs.length) (h1 : 1 ≤ (rs[i]).f1) (h5 : (rs[i]).f1 ≤ 5000) (R : List Int × Int) (d : Nat) : ∀ (j : Nat) (acc : List Int), (j : Int) + d = (rs[i]).f1 → acc.length + d ≤ 5000 →
    Ev (fun k => gudgeonref07_List.l2 k rs (acc ++ List.replicate d (rs[i]).f0) (wrap64 ((i : Int) + 1))) R →
    Ev (fun k => gudgeonref07_List.l3 k rs acc (i : Int) (j : Int)) R := by
  have hrd := rdT_nat rs i hi
  induction d with
  | zero =>
    intro j acc hj ha h
    rw [List.replicate_zero, List.append_nil] at h
    refine Ev.step (f := fun k => gudgeonref07_List.l2 k rs acc (wrap64 ((i : Int) + 1))) (fun k => ?_) h
    simp only [gudgeonref07_List.l3]
    rw [if_pos (by omega), if_pos (by omega), hrd, if_neg (by omega)]
  | succ d ih =>
    intro j acc hj ha h
    have e : acc ++ List.replicate (d + 1) (rs[i]).f0 = (acc ++ [(rs[i]).f0]) ++ List.replicate d (rs[i]).f0 := by simp [List.replicate_succ]
    rw [e] at h
    refine Ev.step (f := fun k => gudgeonref07_List.l3 k rs (acc ++ [(rs[i]).f0]) (i : Int) ((j + 1 : Nat) : Int)) (fun k => ?_) (ih (j + 1) (acc ++ [(rs[i]).f0]) (by omega) (by simp; omega) h)
    simp only [gudgeonref07_List.l3]
    rw [if_pos (by omega), if_pos (by omega), hrd, if_pos (by omega), if_pos (by omega), w64 (by omega) (by omega)]
    rfl
theorem refList_l2 (hg : good rs = true) (d : Nat) : ∀ (i : Nat) (acc : List Int), i + d = rs.length → acc.length + (flat (rs.drop i)).length ≤ 5000 →
    Ev (fun k => gudgeonref07_List.l2 k rs acc (i : Int)) (acc ++ flat (rs.drop i), 0) := by
  induction d with
  | zero =>
    intro i acc hi ha
    rw [List.drop_eq_nil_of_le (by omega)]
    simp only [flat, List.append_nil]
    refine Ev.step (f := fun _ => some (acc, 0)) (fun k => ?_) (Ev.now _)
    simp only [gudgeonref07_List.l2]
    rw [if_neg (by omega)]
  | succ d ih =>
    intro i acc hi ha
    have hlt : i < rs.length := by omega
    have hdrop : rs.drop i = rs[i] :: rs.drop (i + 1) := List.drop_eq_getElem_cons hlt
    have hok := good_at hg i hlt
    rw [hdrop] at ha ⊢
    simp only [flat, List.length_append, List.length_replicate] at ha ⊢
    have hw : wrap64 ((i : Int) + 1) = ((i + 1 : Nat) : Int) := by rw [w64 (by omega) (by omega)]; omega
    have IH := ih (i + 1) (acc ++ List.replicate (rs[i]).f1.toNat (rs[i]).f0) (by omega) (by simp; omega)
    rw [← hw] at IH
    have h3 := refList_l3 rs hL i hlt hok.2 (by omega) _ (rs[i]).f1.toNat 0 acc (by have := hok.2; omega) (by omega) IH
    rw [List.append_assoc] at h3
    refine Ev.step (f := fun k => gudgeonref07_List.l3 k rs acc (i : Int) 0) (fun k => ?_) h3
    simp only [gudgeonref07_List.l2]
    rw [if_pos (by omega)]
theorem refList_l1 (hg : good rs = true) (d : Nat) : ∀ (i : Nat) (b : Int), i + d = rs.length → 0 ≤ b → ((flat (rs.take i)).length : Int) + b ≤ 5000 →
    Ev (fun k => gudgeonref07_List.l1 k rs b (i : Int)) (if ((flat (rs.drop i)).length : Int) ≤ b then (flat rs, 0) else ([], 2)) := by
  induction d with
  | zero =>
    intro i b hi hb h5
    rw [List.drop_eq_nil_of_le (by omega)]
    rw [List.take_of_length_le (by omega)] at h5
    rw [show flat ([] : List S41) = [] from rfl, List.length_nil, if_pos (by simpa using hb)]
    have h2 := refList_l2 rs hL hg rs.length 0 [] (by omega) (by simp; omega)
    rw [List.drop_zero, List.nil_append] at h2
    refine Ev.step (f := fun k => gudgeonref07_List.l2 k rs [] 0) (fun k => ?_) h2
    simp only [gudgeonref07_List.l1]
    rw [if_neg (by omega)]
  | succ d ih =>
    intro i b hi hb h5
    have hlt : i < rs.length := by omega
    have hdrop : rs.drop i = rs[i] :: rs.drop (i + 1) := List.drop_eq_getElem_cons hlt
    have htake : rs.take (i + 1) = rs.take i ++ [rs[i]] := List.take_succ_eq_append_getElem hlt
    have hok := (good_at hg i hlt).2
    have hrd := rdT_nat rs i hlt
    have hfl : ((flat (rs.take (i + 1))).length : Int) = (flat (rs.take i)).length + (rs[i]).f1 := by
      rw [htake, flat_append, List.length_append]
      simp only [flat, List.append_nil, List.length_replicate]
      omega
    rw [hdrop]
    simp only [flat, List.length_append, List.length_replicate]
    by_cases hbig : (rs[i]).f1 > b
    · rw [if_neg (by omega)]
      refine Ev.step (f := fun _ => some ([], 2)) (fun k => ?_) (Ev.now _)
      simp only [gudgeonref07_List.l1]
      rw [if_pos (by omega), if_pos (by omega), hrd, if_pos hbig]
    · have IH := ih (i + 1) (b - (rs[i]).f1) (by omega) (by omega) (by omega)
      have heq : (if ((flat (rs.drop (i + 1))).length : Int) ≤ b - (rs[i]).f1 then (flat rs, (0 : Int)) else ([], 2)) = (if (((rs[i]).f1.toNat + (flat (rs.drop (i + 1))).length : Nat) : Int) ≤ b then (flat rs, (0 : Int)) else ([], 2)) := by
        by_cases hh : (((rs[i]).f1.toNat + (flat (rs.drop (i + 1))).length : Nat) : Int) ≤ b
        · rw [if_pos hh, if_pos (by omega)]
        · rw [if_neg hh, if_neg (by omega)]
      rw [heq] at IH
      refine Ev.step (f := fun k => gudgeonref07_List.l1 k rs (b - (rs[i]).f1) ((i + 1 : Nat) : Int)) (fun k => ?_) IH
      simp only [gudgeonref07_List.l1]
      rw [if_pos (by omega), if_pos (by omega), hrd, if_neg hbig, w64 (x := b - (rs[i]).f1) (by omega) (by omega), w64 (by omega) (by omega)]
      rfl
theorem refList_l0 (m : Int) (hm : m ≤ 5000) (d : Nat) : ∀ i : Nat, i + d = rs.length → (∀ j (h : j < rs.length), j < i → okR rs[j]) →
    Ev (fun k => gudgeonref07_List.l0 k rs m (i : Int)) (listR rs m) := by
  induction d with
  | zero =>
    intro i hi hj
    have hg : good rs = true := List.all_eq_true.2 fun r hr => by
      obtain ⟨j, h, rfl⟩ := List.getElem_of_mem hr
      exact decide_eq_true (hj j h (by omega))
    unfold listR
    rw [if_pos hg]
    by_cases h0 : m < 0
    · rw [if_neg (by omega)]
      refine Ev.step (f := fun _ => some ([], 2)) (fun k => ?_) (Ev.now _)
      simp only [gudgeonref07_List.l0]
      rw [if_neg (by omega), if_pos h0]
    · have h1 := refList_l1 rs hL hg rs.length 0 m (by omega) (by omega) (by rw [List.take_zero]; simp only [flat, List.length_nil]; omega)
      rw [List.drop_zero] at h1
      refine Ev.step (f := fun k => gudgeonref07_List.l1 k rs m 0) (fun k => ?_) h1
      simp only [gudgeonref07_List.l0]
      rw [if_neg (by omega), if_neg h0]
  | succ d ih =>
    intro i hi hj
    have hlt : i < rs.length := by omega
    have hrd := rdT_nat rs i hlt
    by_cases hok : okR rs[i]
    · refine Ev.step (f := fun k => gudgeonref07_List.l0 k rs m ((i + 1 : Nat) : Int)) (fun k => ?_) (ih (i + 1) (by omega) (fun j h hlt' => by
        by_cases e : j = i
        · subst e; exact hok
        · exact hj j h (by omega)))
      obtain ⟨hp, h1⟩ := hok
      simp only [gudgeonref07_List.l0]
      rw [if_pos (by omega), if_pos (by omega), hrd, refPoint_f, decide_eq_true hp, Option.bind_some, if_pos rfl, if_neg (by omega), w64 (by omega) (by omega)]
      rfl
    · have hg : ¬ good rs = true := fun h => hok (good_at h i hlt)
      unfold listR
      rw [if_neg hg]
      refine Ev.step (f := fun _ => some ([], 1)) (fun k => ?_) (Ev.now _)
      simp only [gudgeonref07_List.l0]
      rw [if_pos (by omega), if_pos (by omega), hrd, refPoint_f, Option.bind_some]
      by_cases hp : 0 ≤ rs[i].f0 ∧ rs[i].f0 ≤ 196607
      · rw [decide_eq_true hp, if_pos rfl, if_pos]
        apply Int.not_le.1
        intro h
        exact hok ⟨hp, by omega⟩
      · rw [decide_eq_false hp, if_neg (by decide)]
theorem refList_ev (m : Int) (hm : m ≤ 5000) : Ev (fun k => gudgeonref07_List.f k rs m) (listR rs m) :=
  refList_l0 rs hL m hm rs.length 0 (by omega) (fun j h hj => absurd hj (by omega))
end
theorem listR_len (rs : List S41) (m : Int) (hm : m ≤ 5000) : (listR rs m).1.length ≤ 5000 := by
  unfold listR
  split
  · split
    · simp only; omega
    · simp
  · simp
theorem LitLists (rs : List S41) (m : Int) (hm0 : -9223372036854775808 ≤ m) : ∃ k, gudgeonlaw07_LitLists.f k rs m = some true := by
  refine Ev.rounds ?_
  unfold gudgeonlaw07_LitLists.f
  refine Ev.bind awake_ev ?_
  simp only [if_true]
  have out : ∀ x : Bool, x = true → Ev (fun k => gudgeonlaw07_LitLists.j0 k rs m true x) true := by
    intro x hx
    refine Ev.step (f := fun _ => some true) (fun k => ?_) (Ev.now _)
    simp only [gudgeonlaw07_LitLists.j0]
    rw [if_pos hx]
  by_cases h1 : (rs.length : Int) > 2000
  · simp only [if_pos h1]; exact out true rfl
  · simp only [if_neg h1]
    by_cases h2 : m > 5000
    · exact out _ (decide_eq_true h2)
    · simp only [decide_eq_false h2]
      refine Ev.step (f := fun k => (lit_List.f k rs m).bind fun bt274 => ((gudgeonref07_List.f k rs m).bind fun bt278 => ((gudgeonref07_Ints.f k bt274.1 bt278.1).bind fun t282 => (if t282 = true then (some (bt274.2 == bt278.2)) else (some false))))) (fun k => ?_) ?_
      · simp only [gudgeonlaw07_LitLists.j0]
        rw [if_neg (by decide)]
      · have hl := listR_len rs m (by omega)
        refine Ev.bind (list_ev rs (by omega) m hm0 (by omega)) (Ev.bind (refList_ev rs (by omega) m (by omega)) (Ev.bind (ints_ev _ _ (by omega)) ?_))
        rw [decide_eq_true rfl]
        simp only [if_true, beq_self_eq_true]
        exact Ev.now _

/-! ### LitTextBack -/
/-- No two neighbours are one. -/
def Dist : List Int → Prop
  | [] => True
  | [_] => True
  | a :: b :: l => a ≠ b ∧ Dist (b :: l)
theorem Dist.snoc (l : List Int) (a c : Int) (h : Dist (l ++ [a])) (hac : a ≠ c) : Dist (l ++ [a] ++ [c]) := by
  induction l with
  | nil => exact ⟨hac, trivial⟩
  | cons b l ih =>
    cases l with
    | nil => exact ⟨h.1, hac, trivial⟩
    | cons d l => exact ⟨h.1, ih h.2⟩
theorem Dist.at {l : List Int} (h : Dist l) (i : Nat) (hi : i + 1 < l.length) : l[i] ≠ l[i + 1] := by
  induction l generalizing i with
  | nil => simp at hi
  | cons a l ih =>
    cases l with
    | nil => simp at hi
    | cons b l =>
      cases i with
      | zero => exact h.1
      | succ i =>
        have := ih h.2 i (by simpa using hi)
        simpa using this
theorem runsF_inv (l : List Int) : ∀ (r r' : List S41), runsF r l = some r' → good r = true → Dist (r.map (·.f0)) → (flat r).length + l.length ≤ 2000 →
    good r' = true ∧ Dist (r'.map (·.f0)) ∧ flat r' = flat r ++ l := by
  induction l with
  | nil =>
    intro r r' h hg hd hn
    simp only [runsF] at h
    obtain rfl := Option.some.inj h
    exact ⟨hg, hd, by simp⟩
  | cons c l ih =>
    intro r r' h hg hd hn
    simp only [runsF] at h
    split at h
    · rename_i hp
      rw [List.length_cons] at hn
      have key : good (runStep r c) = true ∧ Dist ((runStep r c).map (·.f0)) ∧ flat (runStep r c) = flat r ++ [c] := by
        rcases List.eq_nil_or_concat r with rfl | ⟨m, z, rfl⟩
        · rw [runStep_nil]
          exact ⟨by simp [good, okR, hp], trivial, by simp [flat]⟩
        · rw [List.concat_eq_append] at hg hd hn ⊢
          rw [runStep_snoc]
          have hgz : good m = true ∧ okR z := by simpa [good] using hg
          have hfl : flat (m ++ [z]) = flat m ++ List.replicate z.f1.toNat z.f0 := by rw [flat_append]; simp [flat]
          rw [hfl, List.length_append, List.length_replicate] at hn
          by_cases he : z.f0 = c
          · rw [if_pos he]
            have hz1 := hgz.2.2
            have hw : wrap64 (z.f1 + 1) = z.f1 + 1 := w64 (by omega) (by omega)
            rw [hw]
            refine ⟨?_, ?_, ?_⟩
            · have : okR (⟨z.f0, z.f1 + 1⟩ : S41) := ⟨hgz.2.1, by simp only; omega⟩
              simp [good] at hgz ⊢
              exact ⟨hgz.1, this⟩
            · simpa using hd
            · rw [flat_append, hfl]
              have e : (z.f1 + 1).toNat = z.f1.toNat + 1 := by omega
              simp only [flat, List.append_nil, e, List.append_assoc, he]
              rw [List.replicate_succ']
          · rw [if_neg he]
            refine ⟨?_, ?_, ?_⟩
            · have : okR (⟨c, 1⟩ : S41) := ⟨hp, by simp only; omega⟩
              simp [good] at hg ⊢
              exact ⟨hg.1, hg.2, this⟩
            · have := Dist.snoc (m.map (·.f0)) z.f0 c (by simpa using hd) he
              simpa using this
            · rw [flat_append (m ++ [z])]
              simp [flat]
      obtain ⟨k1, k2, k3⟩ := key
      obtain ⟨a1, a2, a3⟩ := ih (runStep r c) r' h k1 k2 (by rw [k3, List.length_append, List.length_cons, List.length_nil]; omega)
      exact ⟨a1, a2, by rw [a3, k3]; simp⟩
    · cases h
theorem textBack_l0 (l : List Int) (hL : l.length ≤ 2000) (r : List S41) (hr : r.length ≤ 2000) (hg : good r = true) (hd : Dist (r.map (·.f0))) (hf : flat r = l) (d : Nat) : ∀ i : Nat, i + d = r.length →
    Ev (fun k => gudgeonlaw07_LitTextBack.l0 k l r (i : Int)) true := by
  induction d with
  | zero =>
    intro i hi
    refine Ev.step (f := fun k => ((lit_List.f k r (l.length : Int)).bind fun bt291 => ((lit_List.f k r ((l.length : Int) - 1)).bind fun bt295 => ((gudgeonref07_Ints.f k l bt291.1).bind fun t299 => (if t299 = true then (if bt291.2 = 0 then (some (bt295.2 == 2)) else (some false)) else (some false)))))) (fun k => ?_) ?_
    · simp only [gudgeonlaw07_LitTextBack.l0]
      rw [if_neg (by omega), w64 (by omega) (by omega)]
    · have e1 : listR r (l.length : Int) = (l, 0) := by unfold listR; rw [if_pos hg, hf, if_pos (by omega)]
      have e2 : listR r ((l.length : Int) - 1) = ([], 2) := by unfold listR; rw [if_pos hg, hf, if_neg (by omega)]
      refine Ev.bind (list_ev r hr (l.length : Int) (by omega) (by omega)) (Ev.bind (list_ev r hr ((l.length : Int) - 1) (by omega) (by omega)) ?_)
      rw [e1, e2]
      refine Ev.bind (ints_ev _ _ (by omega)) ?_
      rw [decide_eq_true rfl]
      exact Ev.now _
  | succ d ih =>
    intro i hi
    have hlt : i < r.length := by omega
    have h1 := (good_at hg i hlt).2
    have hrd := rdT_nat r i hlt
    refine Ev.step (f := fun k => gudgeonlaw07_LitTextBack.l0 k l r ((i + 1 : Nat) : Int)) (fun k => ?_) (ih (i + 1) (by omega))
    have hw : wrap64 ((i : Int) + 1) = ((i + 1 : Nat) : Int) := by rw [w64 (by omega) (by omega)]; omega
    have HW := Aside0.mk hw
    clear hw
    simp only [gudgeonlaw07_LitTextBack.l0]
    rw [if_pos (by omega), if_pos (by omega), hrd, if_neg (by omega), HW.out]
    rcases Nat.eq_zero_or_pos i with hz | hz
    · rw [if_neg (by omega)]
    · obtain ⟨j, rfl⟩ : ∃ j, i = j + 1 := ⟨i - 1, by omega⟩
      have hne := hd.at j (by simpa using hlt)
      simp only [List.getElem_map] at hne
      have hwj : wrap64 (((j + 1 : Nat) : Int) - 1) = (j : Int) := by rw [w64 (by omega) (by omega)]; omega
      rw [if_pos (by omega), hwj, if_pos (by omega), if_pos (by omega), rdT_nat r j (by omega), if_neg (fun e => hne e.symm)]
theorem LitTextBack : gudgeonlaw07_LitTextBack.Pure := by
  intro l _ _ _
  refine Ev.rounds ?_
  unfold gudgeonlaw07_LitTextBack.f
  refine Ev.bind awake_ev ?_
  simp only [if_true]
  by_cases h2 : (l.length : Int) > 2000
  · refine Ev.step (f := fun _ => some true) (fun k => ?_) (Ev.now _)
    simp only [gudgeonlaw07_LitTextBack.j0]
    rw [if_pos (decide_eq_true h2)]
  · simp only [decide_eq_false h2]
    have hl : l.length ≤ 2000 := by omega
    refine Ev.step (f := fun k => ((lit_Runs.f k l).bind fun bt284 => (if bt284.2 = 0 then (gudgeonlaw07_LitTextBack.l0 k l bt284.1 0) else (if bt284.2 = 1 then (some ((bt284.1.length : Int) == 0)) else (some false))))) (fun k => ?_) ?_
    · simp only [gudgeonlaw07_LitTextBack.j0]
      rw [if_neg (by decide)]
    · have hrl := runsR_len l []
      refine Ev.bind (litRuns_ev l hl) ?_
      cases hx : runsF [] l with
      | none =>
        exact Ev.now true
      | some r =>
        obtain ⟨a1, a2, a3⟩ := runsF_inv l [] r hx rfl trivial (by simp only [flat, List.length_nil]; omega)
        have hrr : r.length ≤ 2000 := by
          have : ∀ (l : List Int) (r r' : List S41), runsF r l = some r' → r'.length ≤ r.length + l.length := by
            intro l
            induction l with
            | nil => intro r r' h; simp only [runsF] at h; obtain rfl := Option.some.inj h; simp
            | cons c l ih =>
              intro r r' h
              simp only [runsF] at h
              split at h
              · have h1 := ih _ _ h
                have h2 := runStep_len r c
                rw [List.length_cons]
                omega
              · cases h
          have := this l [] r hx
          simp only [List.length_nil] at this
          omega
        have hR : runsR (some r) = (r, 0) := by simp only [runsR]; rw [if_neg (by omega)]
        rw [hR]
        simp only [if_true]
        exact textBack_l0 l hl r hrr a1 a2 (by simpa [flat] using a3) r.length 0 (by omega)
end Go.Proofs.YtjpcbflkgldokaaDoor.S
