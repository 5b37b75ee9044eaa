/- Joined by wip/tools/shake.py for the claim of SatBudget: SatT, SatU, SatV, SatW, SatX, SatY, HSl, HSn. -/
import Derived.Test.YtckimhhncpnkpaaJSatBudget4
import Derived.Test.YtckimhhncpnkpaaJSatBudget3
/- learn's clause follows, and is false but for its first literal's level. -/
namespace Go.Proofs.Ytckimhhncpnkpaa.Sat
set_option linter.unusedVariables false
open Go.Proofs.Ytckimhhncpnkpaa.Sep
/-- Nothing fits what was seen. -/
def Ref (Cs : List (List Int)) (S : Sol) (nn : Nat) (seen rest : List Int) (P : (Nat → Bool) → Prop) : Prop :=
  ∀ a, fits Cs a → (∀ y ∈ rest, tv a (-y) = true) → (∀ j, j < nn → isOpen S seen j = true → tv a (S.trail.getD j 0) = true) → P a → False
/-- What is learned. -/
structure Learnt (Cs : List (List Int)) (S : Sol) (u : Int) (rest : List Int) : Prop where
  top : ∃ m, S.trail[m]? = some u ∧ lvAt S.starts m = S.starts.length
  low : ∀ y ∈ rest, ∃ j, S.trail[j]? = some (-y) ∧ 1 ≤ lvAt S.starts j ∧ lvAt S.starts j < S.starts.length
  dist : ((-u :: rest).map Int.natAbs).Nodup
  ent : ∀ a, fits Cs a → csat a (-u :: rest)
theorem resolve_spec {Cs : List (List Int)} {S : Sol} {n p : Nat} (h : Inv Cs n p S) (hs : S.starts ≠ []) : ∀ (f nn : Nat) (k : Int) (R : Lrn) (rest : List Int) (xr : Int) (l : List Int),
    nn < f → nn ≤ S.trail.length → LI S n nn R rest → 0 ≤ k → S.l[k.toNat]? = some l →
    (∀ y ∈ l, y ≠ xr → ∃ j, j < nn ∧ S.trail[j]? = some (-y)) → (xr ∈ l → xr ∈ S.trail) →
    (1 ≤ R.op ∨ ∃ y ∈ l, y ≠ xr ∧ ∃ j, S.trail[j]? = some (-y) ∧ lvAt S.starts j = S.starts.length) →
    Ref Cs S nn R.seen rest (fun a => ∀ y ∈ l, y ≠ xr → tv a y = false) →
    ∃ R' u rest', resolve S.starts.length f k nn R = some R' ∧ Same S R'.S ∧ R'.out = -u :: rest' ∧ Learnt Cs S u rest'
  | 0, nn, _, _, _, _, _, hf, _, _, _, _, _, _, _, _ => by omega
  | f + 1, nn, k, R, rest, xr, l, hf, hnn, hR, hk, hl, hy, hxr, hop, href => by
    have hsl : 0 < S.starts.length := List.length_pos_iff.2 hs
    unfold resolve
    rw [if_neg (by omega), hR.same.l, hl]
    dsimp only
    obtain ⟨R1, rest1, e1, hR1, b, c, d⟩ := lits_spec h.sh hnn xr l R rest hR (fun y hyl => by
      obtain ⟨h1, h2⟩ := h.cl.lit l (get_mem hl) y hyl
      refine ⟨h1, h2, ?_⟩
      by_cases e : y = xr
      · exact .inl ⟨e, by rw [e]; exact hxr (e ▸ hyl)⟩
      · exact .inr (hy y hyl e))
    rw [e1]
    dsimp only
    -- there is an open one
    have hop1 : ∃ j, j < nn ∧ isOpen S R1.seen j = true := by
      have hopen : ∀ j (x : Int), j < nn → S.trail[j]? = some x → (x.natAbs : Int) ∈ R1.seen → lvAt S.starts j = S.starts.length → isOpen S R1.seen j = true := fun j x hj hx hxs hlv => by
        unfold isOpen
        rw [show S.trail.getD j 0 = x from getD_some hx, decide_eq_true hlv, decide_eq_true hxs]; rfl
      rcases hop with hop | ⟨y, hyl, hyx, j, hj, hlv⟩
      · have h1 := hR.op
        have h2 : 0 < (List.range nn).countP (isOpen S R.seen) := by omega
        obtain ⟨j, hj, hjo⟩ := List.countP_pos_iff.1 h2
        have hjn := List.mem_range.1 hj
        unfold isOpen at hjo
        rw [Bool.and_eq_true, decide_eq_true_eq, decide_eq_true_eq] at hjo
        exact ⟨j, hjn, hopen j _ hjn (getD_get (by omega)) (b _ hjo.2) hjo.1⟩
      · obtain ⟨j2, hj2, hj3⟩ := hy y hyl hyx
        obtain rfl := h.sh.inj hj hj3 rfl
        rcases d y hyl hyx with h5 | ⟨i, hi, hz⟩
        · exact ⟨j, hj2, hopen j _ hj2 hj (by rw [Int.natAbs_neg]; exact h5) hlv⟩
        · obtain rfl := h.sh.inj hj hi rfl
          omega
    obtain ⟨j0, hj0, hjo⟩ := hop1
    have hjo' := hjo
    unfold isOpen at hjo
    rw [Bool.and_eq_true, decide_eq_true_eq, decide_eq_true_eq] at hjo
    rw [hR1.same.trail]
    obtain ⟨m, x, e2, hm, hmx, hxs, hun⟩ := downTo_spec (trail := S.trail) (seen := R1.seen) (fun x hx => by have := (h.sh.trv x hx).2; have := h.sh.small; omega) nn hnn ⟨j0, hj0, hjo.2⟩
    rw [e2]
    dsimp only
    rw [hmx]
    dsimp only
    have hj0m : j0 ≤ m := by
      refine Nat.not_lt.1 (fun hlt => hun j0 hlt hj0 hjo.2)
    have hlm : lvAt S.starts m = S.starts.length := by
      have h1 := lvAt_mono S.starts hj0m
      have h2 := lvAt_le S.starts m
      omega
    have hxm : S.trail.getD m 0 = x := getD_some hmx
    have hmo : isOpen S R1.seen m = true := by
      unfold isOpen
      rw [hxm, decide_eq_true hlm, decide_eq_true hxs]; rfl
    have hcut := countP_cut hmo nn hm (fun j h1 h2 => by
      unfold isOpen
      rw [decide_eq_false (hun j h1 h2), Bool.and_false])
    have hop2 := hR1.op
    rw [hcut] at hop2
    -- what was seen is not to be had
    have href1 : Ref Cs S nn R1.seen rest1 (fun _ => True) := fun a ha h1 h2 _ => by
      refine href a ha (fun y hy => h1 y (c y hy)) (fun j hj hjo => h2 j hj ?_) (fun y hyl hyx => ?_)
      · unfold isOpen at hjo ⊢
        rw [Bool.and_eq_true, decide_eq_true_eq, decide_eq_true_eq] at hjo ⊢
        exact ⟨hjo.1, b _ hjo.2⟩
      · obtain ⟨hy0, hyn⟩ := h.cl.lit l (get_mem hl) y hyl
        have done : tv a (-y) = true → tv a y = false := fun e => by rw [tv_neg a hy0] at e; simpa using e
        obtain ⟨j, hj, hjy⟩ := hy y hyl hyx
        rcases d y hyl hyx with h5 | ⟨i, hi, hz⟩
        · obtain ⟨q, z, q1, q2, q3, q4⟩ := hR1.seen _ h5
          have hzy : z.natAbs = y.natAbs := by omega
          obtain rfl := h.sh.inj hjy q1 (by rw [Int.natAbs_neg]; exact hzy.symm)
          obtain rfl := Option.some.inj (q1.symm.trans hjy)
          by_cases h6 : lvAt S.starts j < S.starts.length
          · have := h1 _ (q4 h6)
            rw [Int.neg_neg] at this
            exact done this
          · have h7 := lvAt_le S.starts j
            have := h2 j hj (by
              unfold isOpen
              rw [show S.trail.getD j 0 = -y from getD_some hjy, Int.natAbs_neg, decide_eq_true (by omega), decide_eq_true h5]; rfl)
            rw [show S.trail.getD j 0 = -y from getD_some hjy] at this
            exact done this
        · exact done (h.sem.zero i (-y) hi hz a ha)
    have hcp := List.countP_le_length (p := isOpen S R1.seen) (l := List.range m)
    rw [List.length_range] at hcp
    have htl := h.sh.len
    have hsmall := h.sh.small
    rw [if_neg (by rw [hR1.out]; simp; omega)]
    by_cases h3 : R1.op - 1 = 0
    · rw [if_pos h3]
      refine ⟨_, x, rest1, rfl, hR1.same, by show R1.out.set 0 (-x) = _; rw [hR1.out]; rfl, ⟨m, hmx, hlm⟩, hR1.low, ?_, fun a ha => ?_⟩
      · rw [List.map_cons, List.nodup_cons]
        refine ⟨fun hin => ?_, hR1.dist⟩
        obtain ⟨y, hyr, hye⟩ := List.mem_map.1 hin
        obtain ⟨j, hj, _, hlt⟩ := hR1.low y hyr
        obtain rfl := h.sh.inj hj hmx (by rw [Int.natAbs_neg, hye, Int.natAbs_neg])
        omega
      · refine Classical.byContradiction (fun hno => ?_)
        have hf : ∀ y ∈ -x :: rest1, tv a y = false := fun y hy => by
          rcases Bool.eq_false_or_eq_true (tv a y) with e | e
          · exact absurd ⟨y, hy, e⟩ hno
          · exact e
        have hx0 := (h.sh.trv x (get_mem hmx)).1
        refine href1 a ha (fun y hy => ?_) (fun j hj hjo => ?_) trivial
        · have hy0 : y ≠ 0 := by
            obtain ⟨j, hj, _⟩ := hR1.low y hy
            have := (h.sh.trv _ (get_mem hj)).1
            omega
          rw [tv_neg a hy0, hf y (List.mem_cons_of_mem _ hy)]; rfl
        · have hjm : j = m := by
            have hz : (List.range m).countP (isOpen S R1.seen) = 0 := by omega
            rw [List.countP_eq_zero] at hz
            rcases Nat.lt_trichotomy j m with h4 | h4 | h4
            · exact absurd hjo (hz j (List.mem_range.2 h4))
            · exact h4
            · have := hun j h4 hj
              unfold isOpen at hjo
              rw [Bool.and_eq_true, decide_eq_true_eq, decide_eq_true_eq] at hjo
              exact absurd hjo.2 this
          rw [hjm, hxm]
          have := hf (-x) List.mem_cons_self
          rw [tv_neg a hx0] at this
          simpa using this
    · rw [if_neg h3]
      have hxn := (h.sh.trv x (get_mem hmx)).2
      have hw : R1.S.why[x.natAbs]? = some (S.why.getD x.natAbs 0) := by rw [hR1.same.why]; exact getD_get (by rw [h.sh.five.w]; exact hxn)
      rw [hw]
      dsimp only
      -- another one is open ahead: so it is no decision
      have hz : 0 < (List.range m).countP (isOpen S R1.seen) := by omega
      obtain ⟨i, hi, hio⟩ := List.countP_pos_iff.1 hz
      have him := List.mem_range.1 hi
      unfold isOpen at hio
      rw [Bool.and_eq_true, decide_eq_true_eq, decide_eq_true_eq] at hio
      rcases h.re m x hmx with ⟨_, h5⟩ | ⟨h4, l', h5, h6, h7⟩
      · exfalso
        rcases h5 with h5 | h5
        · omega
        · obtain ⟨q, hq⟩ := List.mem_iff_getElem?.1 h5
          have := lvAt_lt h.sh.sorted hq (i := i) (by omega)
          have := get_lt hq
          omega
      · have hR2 : LI S n m { R1 with op := R1.op - 1 } rest1 := ⟨hR1.same, hR1.out, hR1.low, hR1.seen, hR1.rs, hR1.dist, by show R1.op - 1 = (((List.range m).countP (isOpen S R1.seen) : Nat) : Int); omega⟩
        refine resolve_spec h hs f m _ _ rest1 x l' (by omega) (by omega) hR2 h4 h5 h7 (fun _ => get_mem hmx) (.inl (by show 1 ≤ R1.op - 1; omega)) (fun a ha h8 h9 h10 => ?_)
        refine href1 a ha h8 (fun j hj hjo => ?_) trivial
        have hjm : j ≤ m := by
          refine Nat.not_lt.1 (fun hlt => hun j hlt hj ?_)
          unfold isOpen at hjo
          rw [Bool.and_eq_true, decide_eq_true_eq, decide_eq_true_eq] at hjo
          exact hjo.2
        by_cases e : j = m
        · rw [e, hxm]
          obtain ⟨y, hyl, hyt⟩ := h.sem.cl l' (get_mem h5) a ha
          by_cases e2 : y = x
          · rw [← e2]; exact hyt
          · rw [h10 y hyl e2] at hyt; cases hyt
        · exact h9 j (by omega) hjo
theorem get_tail {l : List Int} {i : Nat} {y d : Int} (h : l[i + 1]? = some y) : y ∈ l.tail := by
  cases l with
  | nil => simp at h
  | cons a r => rw [List.getElem?_cons_succ] at h; exact get_mem h
theorem pick_spec {S : Sol} (lev : Int → Int) : ∀ (d i : Nat) (out : List Int) (lv : Int), i + d = out.length → 1 ≤ i → (∀ y ∈ out.tail, S.level[y.natAbs]? = some (lev y) ∧ 1 ≤ lev y) →
    ((i = 1 ∧ lv = 0) ∨ (1 < i ∧ lev (out.getD 1 0) = lv)) → (∀ j, 1 ≤ j → j < i → lev (out.getD j 0) ≤ lv) → 0 ≤ lv →
    ∃ out' lv', pick S d i out lv = some (out', lv') ∧ out.Perm out' ∧ out'.getD 0 0 = out.getD 0 0 ∧ 0 ≤ lv' ∧ (∀ y ∈ out'.tail, lev y ≤ lv') ∧ ((out.length = 1 ∧ lv' = 0) ∨ (1 < out.length ∧ lev (out'.getD 1 0) = lv'))
  | 0, i, out, lv, hi, h1, _, hc, hle, h0 => by
    refine ⟨out, lv, rfl, List.Perm.refl _, rfl, h0, fun y hy => ?_, hc.imp (fun h => ⟨by omega, h.2⟩) (fun h => ⟨by omega, h.2⟩)⟩
    obtain ⟨j, hj⟩ := List.mem_iff_getElem?.1 hy
    rw [List.getElem?_tail] at hj
    have := get_lt hj
    rw [← show out.getD (j + 1) 0 = y from getD_some hj]
    exact hle (j + 1) (by omega) (by omega)
  | d + 1, i, out, lv, hi, h1, hl, hc, hle, h0 => by
    have hil : i < out.length := by omega
    have hg : out[i]? = some (out.getD i 0) := getD_get hil
    have hmem : out.getD i 0 ∈ out.tail := by
      obtain ⟨q, rfl⟩ : ∃ q, i = q + 1 := ⟨i - 1, by omega⟩
      exact get_tail (d := 0) hg
    obtain ⟨a1, a2⟩ := hl _ hmem
    unfold pick
    rw [hg]
    dsimp only
    rw [a1]
    dsimp only
    by_cases h2 : lv < lev (out.getD i 0)
    · rw [if_pos h2]
      have hp := swp_perm (l := out) (i := 1) (j := i) (by omega) hil
      have hlen : (swp out 1 i).length = out.length := hp.length_eq.symm
      have hsg := fun t => swp_get (l := out) (i := 1) (j := i) (by omega) hil t
      have s0 : (swp out 1 i).getD 0 0 = out.getD 0 0 := by rw [hsg, if_neg (by omega), if_neg (by omega)]
      have htail : ∀ y ∈ (swp out 1 i).tail, y ∈ out.tail := fun y hy => by
        obtain ⟨j, hj⟩ := List.mem_iff_getElem?.1 hy
        rw [List.getElem?_tail] at hj
        have hjl := get_lt hj
        rw [hlen] at hjl
        have e : (swp out 1 i).getD (j + 1) 0 = y := getD_some hj
        rw [hsg] at e
        have tl : ∀ q, 1 ≤ q → q < out.length → out.getD q 0 ∈ out.tail := fun q hq hql => by
          obtain ⟨r, rfl⟩ : ∃ r, q = r + 1 := ⟨q - 1, by omega⟩
          exact get_tail (d := 0) (getD_get hql)
        split at e
        · rw [← e]; exact tl 1 (by omega) (by omega)
        · split at e
          · rw [← e]; exact tl i h1 hil
          · rw [← e]; exact tl (j + 1) (by omega) hjl
      have s1 : lev ((swp out 1 i).getD 1 0) = lev (out.getD i 0) := by
        rw [hsg]
        by_cases e : 1 = i
        · rw [if_pos e, ← e]
        · rw [if_neg e, if_pos rfl]
      obtain ⟨out', lv', e, b1, b2, b3, b4, b5⟩ := pick_spec lev d (i + 1) (swp out 1 i) (lev (out.getD i 0)) (by omega) (by omega) (fun y hy => hl y (htail y hy)) (.inr ⟨by omega, s1⟩) (fun j hj1 hj2 => by
        rw [hsg]
        by_cases e : j = i
        · rw [if_pos e]
          by_cases e1 : 1 = i
          · rw [← e1]; exact Int.le_refl _
          · have := hle 1 (by omega) (by omega); omega
        · rw [if_neg e]
          by_cases e1 : j = 1
          · rw [if_pos e1]; exact Int.le_refl _
          · rw [if_neg e1]
            have := hle j hj1 (by omega); omega) (by omega)
      exact ⟨out', lv', e, hp.trans b1, b2.trans s0, b3, b4, by rw [← hlen]; exact b5⟩
    · rw [if_neg h2]
      have hi1 : 1 < i := by
        rcases hc with ⟨e1, e2⟩ | ⟨e1, _⟩
        · omega
        · exact e1
      exact pick_spec lev d (i + 1) out lv (by omega) (by omega) hl (.inr ⟨by omega, (hc.resolve_left (fun h => by omega)).2⟩) (fun j hj1 hj2 => by
        by_cases e : j = i
        · rw [e]; omega
        · exact hle j hj1 (by omega)) h0
/-- What learn answers. -/
theorem learn_spec {Cs : List (List Int)} {S : Sol} {n p : Nat} {k : Int} (h : Inv Cs n p S) (hs : S.starts ≠ []) (hc : Conf p S k) {f : Nat} (hf : S.trail.length < f) :
    ∃ S' u rest lv, S.learn f k = some (S', -u :: rest, lv) ∧ Same S S' ∧ Learnt Cs S u rest ∧ 0 ≤ lv ∧ (∀ y ∈ rest, ∃ j, S.trail[j]? = some (-y) ∧ (lvAt S.starts j : Int) ≤ lv) ∧ ((rest = [] ∧ lv = 0) ∨ ∃ y r j, rest = y :: r ∧ S.trail[j]? = some (-y) ∧ (lvAt S.starts j : Int) = lv) := by
  obtain ⟨l, hl, ⟨y0, hy0, hy0p⟩, hall⟩ := hc.l
  have hlv : lvAt S.starts p = S.starts.length := lvAt_full h.st
  have hR0 : LI S n S.trail.length ⟨S, [0], [], 0⟩ [] := by
    refine ⟨Same.refl S, rfl, by simp, by simp, by simp, List.Pairwise.nil, ?_⟩
    show (0 : Int) = _
    rw [List.countP_eq_zero.2 (fun j _ => by unfold isOpen; simp)]; rfl
  obtain ⟨R', u, rest, e, hsame, hout, hL⟩ := resolve_spec h hs f S.trail.length k ⟨S, [0], [], 0⟩ [] 0 l hf (Nat.le_refl _) hR0 hc.r0 hl (fun y hy _ => by
    obtain ⟨j, hj⟩ := List.mem_iff_getElem?.1 (hall y hy)
    exact ⟨j, get_lt hj, hj⟩) (fun h0 => absurd rfl (h.cl.lit l (get_mem hl) 0 h0).1) (.inr ⟨y0, hy0, (h.cl.lit l (get_mem hl) y0 hy0).1, p, hy0p, hlv⟩) (fun a ha _ _ hP => by
    obtain ⟨y, hy, hyt⟩ := h.sem.cl l (get_mem hl) a ha
    rw [hP y hy (h.cl.lit l (get_mem hl) y hy).1] at hyt
    cases hyt)
  unfold Sol.learn
  rw [e]
  dsimp only
  rw [hout]
  -- the levels of the others
  have hlow := hL.low
  have hlev : ∀ y ∈ rest, R'.S.level[y.natAbs]? = some (S.level.getD y.natAbs 0) ∧ 1 ≤ S.level.getD y.natAbs 0 := fun y hy => by
    obtain ⟨j, hj, h1, _⟩ := hlow y hy
    have hn := (h.sh.trv _ (get_mem hj)).2
    rw [Int.natAbs_neg] at hn
    have := h.sh.lev j _ hj
    rw [Int.natAbs_neg] at this
    refine ⟨by rw [hsame.level]; exact getD_get (by rw [h.sh.five.l]; exact hn), by omega⟩
  obtain ⟨out', lv', e2, b1, b2, b3, b4, b5⟩ := pick_spec (S := R'.S) (fun y => S.level.getD y.natAbs 0) ((-u :: rest).length - 1) 1 (-u :: rest) 0 (by simp; omega) (Nat.le_refl _) hlev (.inl ⟨rfl, rfl⟩) (fun j h1 h2 => by omega) (Int.le_refl _)
  rw [e2]
  dsimp only
  obtain ⟨rest', rfl⟩ : ∃ rest', out' = -u :: rest' := by
    cases out' with
    | nil => have := b1.length_eq; simp at this
    | cons a r =>
      have : a = -u := b2
      exact ⟨r, by rw [this]⟩
  have hp : rest.Perm rest' := (List.perm_cons _).1 b1
  have hlv2 : ∀ y ∈ rest', ∃ j, S.trail[j]? = some (-y) ∧ S.level.getD y.natAbs 0 = (lvAt S.starts j : Int) := fun y hy => by
    obtain ⟨j, hj, _⟩ := hlow y (hp.symm.subset hy)
    have := h.sh.lev j _ hj
    rw [Int.natAbs_neg] at this
    exact ⟨j, hj, this⟩
  refine ⟨R'.S, u, rest', lv', rfl, hsame, ⟨hL.top, fun y hy => hlow y (hp.symm.subset hy), (b1.map _).nodup_iff.1 hL.dist, fun a ha => csat_perm b1 (hL.ent a ha)⟩, b3, fun y hy => ?_, ?_⟩
  · obtain ⟨j, hj, e3⟩ := hlv2 y hy
    exact ⟨j, hj, by have := b4 y hy; omega⟩
  · rcases b5 with ⟨h1, h2⟩ | ⟨h1, h2⟩
    · rw [List.length_cons] at h1
      have : rest = [] := List.eq_nil_of_length_eq_zero (by omega)
      subst this
      exact .inl ⟨List.nil_perm.1 hp, h2⟩
    · cases rest' with
      | nil => have := hp.length_eq; rw [List.length_cons] at h1; rw [List.length_nil] at this; omega
      | cons y r =>
        obtain ⟨j, hj, e3⟩ := hlv2 y List.mem_cons_self
        exact .inr ⟨y, r, j, rfl, hj, by rw [← e3]; exact h2⟩
end Go.Proofs.Ytckimhhncpnkpaa.Sat
/- keep, conflict: what is learned is new. -/
namespace Go.Proofs.Ytckimhhncpnkpaa.Sat
set_option linter.unusedVariables false
open Go.Proofs.Ytckimhhncpnkpaa.Sep
/-! ### keep -/
theorem wget_wadd (m : List (Int × List Int)) (x k z : Int) : wget (wadd m x k) z = if x = z then wget m z ++ [k] else wget m z := by
  unfold wadd
  rw [wget_wput]
  split
  · rename_i e; rw [e]
  · rfl
theorem keep_watch {S : Sol} {l : List Int} (h : 2 ≤ l.length) (hd : l.getD 0 0 ≠ l.getD 1 0) (z : Int) : wget (S.keep l).watch z = if l.getD 0 0 = z ∨ l.getD 1 0 = z then wget S.watch z ++ [(S.l.length : Int)] else wget S.watch z := by
  match l, h with
  | a :: b :: r, _ =>
    show wget (wadd (wadd S.watch a S.l.length) b S.l.length) z = _
    rw [wget_wadd, wget_wadd]
    show (if b = z then (if a = z then wget S.watch z ++ [(S.l.length : Int)] else wget S.watch z) ++ [(S.l.length : Int)] else if a = z then wget S.watch z ++ [(S.l.length : Int)] else wget S.watch z) = if a = z ∨ b = z then _ else _
    have hab : a ≠ b := hd
    by_cases h1 : a = z
    · subst h1
      rw [if_neg (fun e => hab e.symm), if_pos rfl, if_pos (.inl rfl)]
    · by_cases h2 : b = z
      · subst h2; rw [if_pos rfl, if_neg h1, if_pos (.inr rfl)]
      · rw [if_neg h2, if_neg h1, if_neg (by simp [h1, h2])]
theorem Wat.keep {S : Sol} {l : List Int} (hw : Wat S.l (wget S.watch)) (h : 2 ≤ l.length) (hd : l.getD 0 0 ≠ l.getD 1 0) : Wat (S.keep l).l (wget (S.keep l).watch) := by
  have hl : (S.keep l).l = S.l ++ [l] := rfl
  have hnew : ∀ z, (S.l.length : Int) ∉ wget S.watch z := fun z hz => by
    obtain ⟨_, m, hm, _⟩ := (hw.2 z _).1 hz
    have := get_lt hm
    omega
  refine ⟨fun z => ?_, fun z j => ?_⟩
  · rw [keep_watch h hd]
    split
    · rw [List.nodup_append]
      refine ⟨hw.1 z, by simp, fun a ha b hb e => ?_⟩
      rw [List.mem_singleton.1 hb] at e
      exact hnew z (e ▸ ha)
    · exact hw.1 z
  · rw [keep_watch h hd, hl]
    have old : ∀ m, (j.toNat < S.l.length) → ((S.l ++ [l])[j.toNat]? = some m ↔ S.l[j.toNat]? = some m) := fun m hj => by rw [List.getElem?_append_left hj]
    have new : ∀ m, j.toNat = S.l.length → ((S.l ++ [l])[j.toNat]? = some m ↔ l = m) := fun m hj => by
      rw [List.getElem?_append_right (by omega), hj, Nat.sub_self]
      simp
    have key : j ∈ wget S.watch z ↔ 0 ≤ j ∧ j.toNat < S.l.length ∧ ∃ m, (S.l ++ [l])[j.toNat]? = some m ∧ (m.getD 0 0 = z ∨ m.getD 1 0 = z) := by
      rw [hw.2 z j]
      constructor
      · rintro ⟨h0, m, hm, hz⟩
        exact ⟨h0, get_lt hm, m, (old m (get_lt hm)).2 hm, hz⟩
      · rintro ⟨h0, hj, m, hm, hz⟩
        exact ⟨h0, m, (old m hj).1 hm, hz⟩
    split
    · rename_i e
      rw [List.mem_append, List.mem_singleton, key]
      constructor
      · rintro (⟨h0, _, m, hm⟩ | rfl)
        · exact ⟨h0, m, hm⟩
        · exact ⟨by omega, l, (new l (by omega)).2 rfl, e⟩
      · rintro ⟨h0, m, hm, hz⟩
        by_cases hj : j.toNat < S.l.length
        · exact .inl ⟨h0, hj, m, hm, hz⟩
        · have := get_lt hm
          rw [List.length_append, List.length_singleton] at this
          exact .inr (by omega)
    · rename_i e
      rw [key]
      constructor
      · rintro ⟨h0, _, m, hm⟩; exact ⟨h0, m, hm⟩
      · rintro ⟨h0, m, hm, hz⟩
        refine ⟨h0, ?_, m, hm, hz⟩
        refine Nat.lt_of_not_le (fun hle => ?_)
        have := get_lt hm
        rw [List.length_append, List.length_singleton] at this
        obtain rfl := (new m (by omega)).1 hm
        exact e hz
section
variable {S : Sol} {n : Nat} {l : List Int}
theorem Shape.keep (h : Shape S n) (l : List Int) : Shape (S.keep l) n := ⟨⟨h.five.i, h.five.l, h.five.w, h.five.a, h.five.t⟩, h.pos, h.small, h.trv, h.nodup, h.isT, h.isF, h.last, h.sorted, h.stb, h.lev, h.next⟩
theorem Cls.keep (h : Cls S n) (h2 : 2 ≤ l.length) (hl : ∀ y ∈ l, y ≠ 0 ∧ y.natAbs < n) (hd : (l.map Int.natAbs).Nodup) : Cls (S.keep l) n := by
  have e : ∀ m ∈ (S.keep l).l, m ∈ S.l ∨ m = l := fun m hm => by
    have : m ∈ S.l ++ [l] := hm
    simpa using this
  refine ⟨fun m hm => ?_, fun m hm => ?_, fun m hm => ?_⟩
  · rcases e m hm with h1 | rfl
    · exact h.two m h1
    · exact h2
  · rcases e m hm with h1 | rfl
    · exact h.lit m h1
    · exact hl
  · rcases e m hm with h1 | rfl
    · exact h.dist m h1
    · exact hd
theorem Sem.keep {Cs : List (List Int)} (h : Sem Cs S) (he : ∀ a, fits Cs a → csat a l) : Sem Cs (S.keep l) := ⟨fun m hm => by
  have : m ∈ S.l ++ [l] := hm
  rcases List.mem_append.1 this with h1 | h1
  · exact h.cl m h1
  · rw [List.mem_singleton.1 h1]; exact he, h.zero, h.no⟩
theorem keep_old {k : Nat} {m : List Int} (h : S.l[k]? = some m) : (S.keep l).l[k]? = some m := by
  show (S.l ++ [l])[k]? = some m
  rw [List.getElem?_append_left (get_lt h)]; exact h
theorem keep_new : (S.keep l).l[S.l.length]? = some l := by
  show (S.l ++ [l])[S.l.length]? = some l
  rw [List.getElem?_append_right (Nat.le_refl _), Nat.sub_self]; rfl
theorem Reas.keep (h : Reas S) : Reas (S.keep l) := fun i x hx => by
  rcases h i x hx with h1 | ⟨h1, m, h2, h3, h4⟩
  · exact .inl h1
  · exact .inr ⟨h1, m, keep_old h2, h3, h4⟩
theorem Full.keep {Cs : List (List Int)} (h : Full Cs S) : Full Cs (S.keep l) := fun a h1 h2 => h a (fun m hm => h1 m (by show m ∈ S.l ++ [l]; exact List.mem_append.2 (.inl hm))) h2
end
/-! ### how many clauses there may be -/
def code (N : Nat) (l : List Int) : List Nat := (List.range N).map (fun v : Nat => if (v : Int) ∈ l then 1 else if -(v : Int) ∈ l then 2 else 0)
def allC : Nat → List (List Nat)
  | 0 => [[]]
  | N + 1 => (allC N).flatMap (fun c => [0 :: c, 1 :: c, 2 :: c])
theorem allC_length : ∀ N, (allC N).length = 3 ^ N
  | 0 => rfl
  | N + 1 => by
    have : ∀ L : List (List Nat), (L.flatMap (fun c => [0 :: c, 1 :: c, 2 :: c])).length = 3 * L.length := fun L => by
      induction L with
      | nil => rfl
      | cons a r ih => rw [List.flatMap_cons, List.length_append, ih, List.length_cons]; simp; omega
    show ((allC N).flatMap _).length = _
    rw [this, allC_length N, Nat.pow_succ]; omega
theorem mem_allC : ∀ (c : List Nat), (∀ d ∈ c, d < 3) → c ∈ allC c.length
  | [], _ => List.mem_singleton.2 rfl
  | d :: c, h => by
    refine List.mem_flatMap.2 ⟨c, mem_allC c (fun e he => h e (List.mem_cons_of_mem _ he)), ?_⟩
    have := h d List.mem_cons_self
    match d, this with
    | 0, _ => simp
    | 1, _ => simp
    | 2, _ => simp
theorem code_mem (N : Nat) (l : List Int) : code N l ∈ allC N := by
  have h := mem_allC (code N l) (fun d hd => by
    obtain ⟨v, _, rfl⟩ := List.mem_map.1 hd
    split
    · omega
    · split <;> omega)
  rwa [show (code N l).length = N by unfold code; rw [List.length_map, List.length_range]] at h
theorem code_iff {N : Nat} {l l' : List Int} (h : code N l = code N l') (hd : (l.map Int.natAbs).Nodup) (hd' : (l'.map Int.natAbs).Nodup) {y : Int} (h0 : y ≠ 0) (hn : y.natAbs < N) (hy : y ∈ l) : y ∈ l' := by
  have e : (if (y.natAbs : Int) ∈ l then 1 else if -(y.natAbs : Int) ∈ l then 2 else 0) = (if (y.natAbs : Int) ∈ l' then 1 else if -(y.natAbs : Int) ∈ l' then 2 else 0) := List.map_inj_left.1 h y.natAbs (List.mem_range.2 hn)
  have one : ∀ {m : List Int}, (m.map Int.natAbs).Nodup → y ∈ m → -y ∉ m := fun hm h1 h2 => by
    obtain ⟨i, hi⟩ := List.mem_iff_getElem?.1 h1
    obtain ⟨j, hj⟩ := List.mem_iff_getElem?.1 h2
    have hp := List.pairwise_iff_getElem.1 hm
    have hil := get_lt hi
    have hjl := get_lt hj
    have e1 := (List.getElem?_eq_some_iff.1 hi).2
    have e2 := (List.getElem?_eq_some_iff.1 hj).2
    rcases Nat.lt_trichotomy i j with h3 | h3 | h3
    · exact hp i j (by simpa using hil) (by simpa using hjl) h3 (by rw [List.getElem_map, List.getElem_map, e1, e2, Int.natAbs_neg])
    · subst h3
      have := Option.some.inj (hi.symm.trans hj)
      omega
    · exact hp j i (by simpa using hjl) (by simpa using hil) h3 (by rw [List.getElem_map, List.getElem_map, e1, e2, Int.natAbs_neg])
  by_cases hs : y < 0
  · have e1 : (y.natAbs : Int) = -y := by omega
    rw [e1, Int.neg_neg, if_neg (one hd hy), if_pos hy] at e
    by_cases h1 : -y ∈ l'
    · rw [if_pos h1] at e; omega
    · rw [if_neg h1] at e
      by_cases h2 : y ∈ l'
      · exact h2
      · rw [if_neg h2] at e; omega
  · have e1 : (y.natAbs : Int) = y := by omega
    rw [e1, if_pos hy] at e
    by_cases h1 : y ∈ l'
    · exact h1
    · rw [if_neg h1] at e
      split at e <;> omega
/-- How many clauses are not there. -/
def miss (N : Nat) (ls : List (List Int)) : Nat := (allC N).countP (fun c => decide (c ∉ ls.map (code N)))
theorem miss_le (N : Nat) (ls : List (List Int)) : miss N ls ≤ 3 ^ N := by
  have := List.countP_le_length (p := fun c => decide (c ∉ ls.map (code N))) (l := allC N)
  rwa [allC_length] at this
theorem miss_snoc_le (N : Nat) (ls : List (List Int)) (l : List Int) : miss N (ls ++ [l]) ≤ miss N ls := List.countP_mono_left (fun c _ hc => by
  rw [decide_eq_true_eq] at hc ⊢
  exact fun h => hc (by rw [List.map_append]; exact List.mem_append.2 (.inl h)))
theorem countP_lt {α : Type} {p q : α → Bool} {z : α} : ∀ {l : List α}, z ∈ l → p z = true → q z = false → (∀ j ∈ l, q j = true → p j = true) → l.countP q < l.countP p
  | [], h, _, _, _ => by simp at h
  | a :: r, hz, hp, hq, hi => by
    have hle : r.countP q ≤ r.countP p := List.countP_mono_left (fun j hj => hi j (List.mem_cons_of_mem _ hj))
    rw [List.countP_cons, List.countP_cons]
    rcases List.mem_cons.1 hz with e | hz
    · rw [← e, hp, hq]; simp; omega
    · have := countP_lt hz hp hq (fun j hj => hi j (List.mem_cons_of_mem _ hj))
      by_cases hqa : q a = true
      · rw [hqa, hi a List.mem_cons_self hqa]; omega
      · rw [Bool.eq_false_iff.2 hqa]
        simp; omega
theorem miss_snoc_lt {N : Nat} {ls : List (List Int)} {l : List Int} (h : code N l ∉ ls.map (code N)) : miss N (ls ++ [l]) < miss N ls := by
  unfold miss
  refine countP_lt (code_mem N l) (decide_eq_true h) (decide_eq_false (fun hn => hn (by rw [List.map_append]; exact List.mem_append.2 (.inr (List.mem_singleton.2 rfl))))) (fun c _ hc => ?_)
  rw [decide_eq_true_eq] at hc ⊢
  exact fun h => hc (by rw [List.map_append]; exact List.mem_append.2 (.inl h))
theorem code_perm {N : Nat} {l l' : List Int} (h : l.Perm l') : code N l = code N l' := List.map_congr_left (fun v _ => by
  have e : ∀ y, (y ∈ l) = (y ∈ l') := fun y => propext h.mem_iff
  simp only [e])
theorem miss_alike {N : Nat} {ls ls' : List (List Int)} (h : Alike ls ls') : miss N ls = miss N ls' := by
  have e : ls.map (code N) = ls'.map (code N) := by
    apply List.ext_getElem?
    intro k
    rw [List.getElem?_map, List.getElem?_map]
    match hk : ls[k]? with
    | none =>
      have := List.getElem?_eq_none_iff.1 hk
      rw [List.getElem?_eq_none (by have := h.1; omega)]
    | some l =>
      obtain ⟨l', h1, h2⟩ := h.get hk
      rw [h1]
      exact congrArg some (code_perm h2)
  unfold miss
  rw [e]
/-- What is on the trail for good. -/
def zeros (S : Sol) : Nat := if S.starts = [] then S.trail.length else (S.starts.getD 0 0).toNat
def meas (N : Nat) (S : Sol) : Nat := miss N S.l + (N - zeros S)
/-- What is learned is new. -/
theorem learnt_new {Cs : List (List Int)} {S : Sol} {n p N : Nat} {u : Int} {rest : List Int} (h : Inv Cs n p S) (hN : n ≤ N) (hL : Learnt Cs S u rest) : code N (-u :: rest) ∉ S.l.map (code N) := by
  intro hin
  obtain ⟨l, hl, he⟩ := List.mem_map.1 hin
  obtain ⟨m, hm, hlm⟩ := hL.top
  have h2 := h.cl.two l hl
  have hd := h.cl.dist l hl
  -- each of it is false
  have hmem : ∀ y ∈ l, y = -u ∨ y ∈ rest := fun y hy => by
    obtain ⟨h0, hn⟩ := h.cl.lit l hl y hy
    exact List.mem_cons.1 (code_iff he hd hL.dist h0 (by omega) hy)
  have hfalse : ∀ y ∈ l, -y ∈ S.trail := fun y hy => by
    rcases hmem y hy with rfl | hy
    · rw [Int.neg_neg]; exact get_mem hm
    · obtain ⟨j, hj, _⟩ := hL.low y hy
      exact get_mem hj
  have hlow : ∀ y ∈ rest, ∃ j, j < p ∧ S.trail[j]? = some (-y) := fun y hy => by
    obtain ⟨j, hj, _, hlt⟩ := hL.low y hy
    refine ⟨j, Nat.lt_of_not_le (fun hle => ?_), hj⟩
    have : lvAt S.starts j = S.starts.length := lvAt_full (fun s hs => by have := h.st s hs; omega)
    omega
  have hg := h.good l hl
  have m0 := getD_mem (l := l) (i := 0) (by omega)
  have m1 := getD_mem (l := l) (i := 1) (by omega)
  rcases hmem _ m0 with e0 | e0
  · rcases hmem _ m1 with e1 | e1
    · have := dist_get hd (i := 0) (j := 1) (by omega) (by omega) (e0.trans e1.symm)
      omega
    · obtain ⟨j, hj, hjt⟩ := hlow _ e1
      obtain ⟨i, hi, _⟩ := hg.2 j hj hjt
      exact h.sh.not_both (get_mem hi) (hfalse _ m0)
  · obtain ⟨j, hj, hjt⟩ := hlow _ e0
    obtain ⟨i, hi, _⟩ := hg.1 j hj hjt
    exact h.sh.not_both (get_mem hi) (hfalse _ m1)
end Go.Proofs.Ytckimhhncpnkpaa.Sat
/- A conflict: what is learned is kept, and less is left. -/
namespace Go.Proofs.Ytckimhhncpnkpaa.Sat
set_option linter.unusedVariables false
open Go.Proofs.Ytckimhhncpnkpaa.Sep
section
variable {S : Sol} {n m p : Nat} {s : Int} {Cs : List (List Int)}
theorem Inv.backed (h : Inv Cs n p S) (hs : S.starts[m]? = some s) : Inv Cs n s.toNat (S.backed m) := by
  obtain ⟨b1, b2, b3, e1, e2, e3, e4, e5, _⟩ := backed_eq h.sh hs
  have hp := h.st s (get_mem hs)
  refine ⟨h.sh.backed hs, ⟨by rw [e4]; exact h.cl.two, by rw [e4]; exact h.cl.lit, by rw [e4]; exact h.cl.dist⟩, h.sem.backed h.sh hs, h.re.backed h.sh hs, by rw [e4, e5]; exact h.wat, fun l hl => ?_, fun t ht => ?_, ?_⟩
  · rw [e4] at hl
    exact (h.good l hl).backed h.sh hs hp
  · rw [e2] at ht
    obtain ⟨j, hj⟩ := List.mem_iff_getElem?.1 ht
    have hj2 := take_get hj
    have := sorted_get h.sh.sorted hj2.2 hs (by omega)
    omega
  · rw [e1, List.length_take]; omega
theorem Shape.mayBack (h : Shape S n) (m : Nat) : S.mayBack m := by
  have := h.small
  refine ⟨fun f hf => h.stb f (get_mem hf), fun x hx => ?_, by rw [h.five.i]; omega⟩
  have := (h.trv x hx).2
  exact ⟨by rw [h.five.i]; exact this, by rw [h.five.t]; exact this, by rw [h.five.w]; exact this⟩
theorem back_eq (hm : m < S.starts.length) : S.back m = S.backed m := by unfold Sol.back; rw [if_neg (by omega)]
end
/-- Where a conflict leads to. -/
structure Jump (S S' : Sol) (m : Nat) (s x : Int) : Prop where
  at_ : S.starts[m]? = some s
  starts : S'.starts = S.starts.take m
  trail : S'.trail = S.trail.take s.toNat ++ [x]
  next : S'.next = s
  whyO : ∀ (i : Nat) (y : Int), (i : Int) < s → S.trail[i]? = some y → S'.why.getD y.natAbs 0 = S.why.getD y.natAbs 0
  whyN : S'.why.getD x.natAbs 0 = -1 → m = 0
  nothing : S'.nothing = S.nothing
  vars : S'.vars = S.vars
  added : S'.added = S.added
theorem conflict_spec {Cs : List (List Int)} {S : Sol} {n p N : Nat} {k : Int} (h : Inv Cs n p S) (hc : Conf p S k) (hN : n ≤ N) (hst : S.starts ≠ []) (hb : S.l.length ≤ 1000000000) :
    ∃ S' m s x, S.conflict k = some S' ∧ Inv Cs n S'.next.toNat S' ∧ Jump S S' m s x ∧ meas N S' < meas N S ∧ S'.l.length + miss N S'.l ≤ S.l.length + miss N S.l ∧ (Full Cs S → Full Cs S') := by
  have hsl : 0 < S.starts.length := List.length_pos_iff.2 hst
  obtain ⟨S1, u, rest, lv, e, hsame, hL, hlv0, hlv1, hlv2⟩ := learn_spec h hst hc (Nat.lt_succ_self _)
  have h1 := hsame.inv h
  -- the level
  have hlvl : lv.toNat < S.starts.length := by
    rcases hlv2 with ⟨_, e0⟩ | ⟨y, r, j, e0, hj, hl⟩
    · omega
    · obtain ⟨j2, hj2, _, hlt⟩ := hL.low y (by rw [e0]; exact List.mem_cons_self)
      obtain rfl := h.sh.inj hj hj2 rfl
      omega
  obtain ⟨s, hs⟩ : ∃ s, S.starts[lv.toNat]? = some s := ⟨_, List.getElem?_eq_getElem hlvl⟩
  have hs1 : S1.starts[lv.toNat]? = some s := by rw [hsame.starts]; exact hs
  obtain ⟨b1, b2, b3, e1, e2, e3, e4, e5, e6, e7, e8, e9, _, _, _, g2, _⟩ := backed_eq h1.sh hs1
  rw [hsame.trail] at e1 b2
  rw [hsame.starts] at e2
  rw [hsame.l] at e4
  have hT := h1.backed hs1
  have hS2 : Same (S1.backed lv.toNat) (S1.backed lv.toNat).bumped := ⟨rfl, rfl⟩
  have hI := hS2.inv hT
  have h1n : S1.nothing = S.nothing := by rw [hsame.eq]
  have h1v : S1.vars = S.vars := by rw [hsame.eq]
  have h1a : S1.added = S.added := by rw [hsame.eq]
  have hwO : ∀ (i : Nat) (y : Int), (i : Int) < s → S.trail[i]? = some y → (S1.backed lv.toNat).why.getD y.natAbs 0 = S.why.getD y.natAbs 0 := fun i y hi hy => by
    rw [(g2 _ (back_far h1.sh hs1 hi (by rw [hsame.trail]; exact hy))).2, hsame.why]
  have hF : Full Cs S → Full Cs (S1.backed lv.toNat) := fun hf => Full.backed h1.sh hs1 (fun a a1 a2 => hf a (by rw [← hsame.l, ← h1v]; exact a1) (fun i x hx hl => a2 i x (by rw [hsame.trail]; exact hx) (by rw [hsame.starts]; exact hl)))
  unfold Sol.conflict
  rw [if_neg (by omega), e]
  dsimp only
  rw [if_pos ⟨hlv0, h1.sh.mayBack _⟩, back_eq (by rw [hsame.starts]; exact hlvl)]
  -- the state that was gone back to
  generalize hT' : S1.backed lv.toNat = T at *
  have tt : T.bumped.trail = S.trail.take s.toNat := e1
  have ts : T.bumped.starts = S.starts.take lv.toNat := e2
  have tn : T.bumped.next = s := e3
  have tl : T.bumped.l = S.l := e4
  have tlen : T.bumped.trail.length = s.toNat := by rw [tt, List.length_take]; omega
  obtain ⟨mu, hmu, hmul⟩ := hL.top
  have hu := h.sh.trv u (get_mem hmu)
  have hmus : s ≤ (mu : Int) := by
    refine Int.not_lt.1 (fun hlt => ?_)
    have := lvAt_lt h.sh.sorted hs hlt
    omega
  have hfar : ∀ z ∈ T.bumped.trail, z.natAbs ≠ u.natAbs := fun z hz e0 => by
    rw [tt] at hz
    obtain ⟨j, hj⟩ := List.mem_iff_getElem?.1 hz
    obtain ⟨hj1, hj2⟩ := take_get hj
    have := h.sh.inj hj2 hmu e0
    omega
  have hx0 : -u ≠ 0 := by omega
  have hxn : (-u).natAbs < n := by rw [Int.natAbs_neg]; exact hu.2
  have hx1 : -u ∉ T.bumped.trail := fun hin => hfar _ hin (Int.natAbs_neg u)
  have hx2 : -(-u) ∉ T.bumped.trail := fun hin => hfar _ hin (by rw [Int.neg_neg])
  have hlow : ∀ y ∈ rest, ∃ j, j < s.toNat ∧ S.trail[j]? = some (-y) ∧ T.bumped.trail[j]? = some (-y) ∧ 1 ≤ lvAt S.starts j := fun y hy => by
    obtain ⟨j, hj, hl⟩ := hlv1 y hy
    obtain ⟨j2, hj2, hl2, _⟩ := hL.low y hy
    obtain rfl := h.sh.inj hj hj2 rfl
    have hjs : (j : Int) < s := by
      refine Int.not_le.1 (fun hle => ?_)
      have := lvAt_ge h.sh.sorted hs hle
      omega
    exact ⟨j, by omega, hj, by rw [tt, List.getElem?_take_of_lt (by omega)]; exact hj, hl2⟩
  have hzS : zeros S = (S.starts.getD 0 0).toNat := by unfold zeros; rw [if_neg hst]
  cases rest with
  | nil =>
    have hlz : lv = 0 := by
      rcases hlv2 with ⟨_, e0⟩ | ⟨y, r, j, e0, _⟩
      · exact e0
      · cases e0
    subst hlz
    have ts0 : T.bumped.starts = [] := by rw [ts]; rfl
    rw [if_pos (by rfl), if_pos (hI.sh.mayPut hxn)]
    have hsh := hI.sh.put (k := -1) hx0 hxn hx1 hx2
    have hlen := hsh.len
    have hlen2 : (T.bumped.put (-u) (-1)).trail.length = s.toNat + 1 := by show (T.bumped.trail ++ [-u]).length = _; rw [List.length_append, tlen]; rfl
    refine ⟨_, 0, s, -u, rfl, ?_, ⟨hs, by show T.bumped.starts = _; rw [ts]; rfl, by rw [← tt]; rfl, tn, fun i y hi hy => ?_, fun _ => rfl, by rw [← h1n, ← e7]; rfl, by rw [← h1v, ← e8]; rfl, by rw [← h1a, ← e9]; rfl⟩, ?_, ?_, fun hf => (show Full Cs T.bumped from hF hf).put⟩
    · have hnx : (T.bumped.put (-u) (-1)).next.toNat = s.toNat := by rw [show (T.bumped.put (-u) (-1)).next = s from tn]
      rw [hnx]
      refine ⟨hsh, ⟨hI.cl.two, hI.cl.lit, hI.cl.dist⟩, hI.sem.put hI.sh (fun _ a ha => ?_), hI.re.put hI.sh hx0 hxn hx1 hx2 ?_, hI.wat, fun l hl => (hI.good l hl).put hI.ple, hI.st, by omega⟩
      · obtain ⟨y, hy, hyt⟩ := hL.ent a ha
        rw [List.mem_singleton.1 hy] at hyt
        exact hyt
      · unfold Why
        rw [put_why (by rw [hI.sh.five.w]; exact hxn)]
        refine .inl ⟨rfl, .inl ?_⟩
        show lvAt T.bumped.starts _ = 0
        rw [ts0]; rfl
    · have hy2 : y ∈ T.bumped.trail := by
        rw [tt]
        exact List.mem_of_getElem? (i := i) (by rw [List.getElem?_take_of_lt (by omega)]; exact hy)
      show (T.bumped.why.set (-u).natAbs (-1)).getD y.natAbs 0 = _
      rw [getD_set (by rw [hI.sh.five.w]; exact hxn), if_neg (fun e0 => hfar y hy2 (by rw [← e0, Int.natAbs_neg]))]
      exact hwO i y hi hy
    · unfold meas
      rw [show (T.bumped.put (-u) (-1)).l = S.l from tl, hzS]
      have hz : zeros (T.bumped.put (-u) (-1)) = s.toNat + 1 := by
        unfold zeros
        rw [if_pos (show (T.bumped.put (-u) (-1)).starts = [] from ts0), hlen2]
      have hs0 : S.starts.getD 0 0 = s := getD_some hs
      rw [hz, hs0]
      omega
    · rw [show (T.bumped.put (-u) (-1)).l = S.l from tl]; exact Nat.le_refl _
  | cons y r =>
    have hyl : y ∈ y :: r := List.mem_cons_self
    -- the level of the second
    have hjx : ∃ j, S.trail[j]? = some (-y) ∧ (lvAt S.starts j : Int) = lv := by
      rcases hlv2 with ⟨e0, _⟩ | ⟨y', r', j, e0, hj, hl⟩
      · cases e0
      · cases e0; exact ⟨j, hj, hl⟩
    clear hlv2
    obtain ⟨j, hj, hjl⟩ := hjx
    obtain ⟨j2, hj2s, hj2, hj2t, hj2l⟩ := hlow y hyl
    obtain rfl := h.sh.inj hj hj2 rfl
    have hlv3 : 1 ≤ lv.toNat := by omega
    have hl2 : 2 ≤ (-u :: y :: r).length := by simp
    have hlits : ∀ z ∈ -u :: y :: r, z ≠ 0 ∧ z.natAbs < n := fun z hz => by
      rcases List.mem_cons.1 hz with rfl | hz
      · exact ⟨hx0, hxn⟩
      · obtain ⟨i, _, hi, _⟩ := hlow z hz
        have := h.sh.trv _ (get_mem hi)
        rw [Int.natAbs_neg] at this
        exact ⟨by have := this.1; omega, this.2⟩
    have hd01 : (-u :: y :: r).getD 0 0 ≠ (-u :: y :: r).getD 1 0 := fun e0 => by
      have := dist_get hL.dist (i := 0) (j := 1) (by simp) (by simp) e0
      omega
    have hts : T.bumped.starts ≠ [] := by
      rw [ts]
      intro e0
      have := congrArg List.length e0
      rw [List.length_take, List.length_nil] at this
      omega
    have hmk : T.bumped.mayKeep := ⟨by rw [tl]; exact hb, fun z => by have := hI.wat.len z; rw [tl] at this; omega⟩
    have hshk := hI.sh.keep (-u :: y :: r)
    rw [if_neg (by simp), if_pos ⟨hmk, hshk.mayPut hxn⟩]
    have hsh := hshk.put (k := (T.bumped.l.length : Int)) hx0 hxn hx1 hx2
    have hgood : ∀ l ∈ T.bumped.l, Good (T.bumped.keep (-u :: y :: r)) s.toNat l := fun l hl => hI.good l hl
    have hple : s.toNat ≤ (T.bumped.keep (-u :: y :: r)).trail.length := hI.ple
    refine ⟨_, lv.toNat, s, -u, rfl, ?_, ⟨hs, by rw [← ts]; rfl, by rw [← tt]; rfl, tn, fun i z hi hz => ?_, fun hw => ?_, by rw [← h1n, ← e7]; rfl, by rw [← h1v, ← e8]; rfl, by rw [← h1a, ← e9]; rfl⟩, ?_, ?_, fun hf => ((show Full Cs T.bumped from hF hf).keep).put⟩
    · have hnx : ((T.bumped.keep (-u :: y :: r)).put (-u) (T.bumped.l.length : Int)).next.toNat = s.toNat := by rw [show ((T.bumped.keep (-u :: y :: r)).put (-u) (T.bumped.l.length : Int)).next = s from tn]
      rw [hnx]
      refine ⟨hsh, ⟨(hI.cl.keep hl2 hlits hL.dist).two, (hI.cl.keep hl2 hlits hL.dist).lit, (hI.cl.keep hl2 hlits hL.dist).dist⟩, (hI.sem.keep hL.ent).put hshk (fun e0 => absurd e0 hts), (hI.re.keep).put hshk hx0 hxn hx1 hx2 ?_, hI.wat.keep hl2 hd01, fun l hl => ?_, hI.st, ?_⟩
      · unfold Why
        rw [put_why (by rw [hshk.five.w]; exact hxn)]
        refine .inr ⟨by omega, -u :: y :: r, by rw [Int.toNat_natCast]; exact keep_new, List.mem_cons_self, fun z hz hne => ?_⟩
        obtain ⟨i, hi, _, hit, _⟩ := hlow z ((List.mem_cons.1 hz).resolve_left hne)
        have hil : i < (T.bumped.keep (-u :: y :: r)).trail.length := get_lt hit
        exact ⟨i, hil, by rw [put_trail_lt hil]; exact hit⟩
      · have hl' : l ∈ T.bumped.l ++ [-u :: y :: r] := hl
        rcases List.mem_append.1 hl' with h3 | h3
        · exact (hgood l h3).put hple
        · rw [List.mem_singleton.1 h3]
          refine ⟨fun i hi hx => ?_, fun i hi hx => ?_⟩
          · have hx' : ((T.bumped.keep (-u :: y :: r)).put (-u) (T.bumped.l.length : Int)).trail[i]? = some (- -u) := hx
            rw [put_trail_lt (by show i < T.bumped.trail.length; omega)] at hx'
            exact absurd (get_mem hx') hx2
          · have hx' : ((T.bumped.keep (-u :: y :: r)).put (-u) (T.bumped.l.length : Int)).trail[i]? = some (-y) := hx
            rw [put_trail_lt (by show i < T.bumped.trail.length; omega)] at hx'
            obtain rfl := hI.sh.inj hx' hj2t rfl
            refine ⟨_, put_trail_len, ?_⟩
            show lvAt T.bumped.starts _ ≤ lvAt T.bumped.starts i
            have h5 : lvAt T.bumped.starts i = lvAt S.starts i := by rw [ts]; exact lvAt_take h.sh.sorted hs (by omega)
            have h6 := lvAt_le T.bumped.starts (T.bumped.keep (-u :: y :: r)).trail.length
            rw [h5]
            rw [ts, List.length_take] at h6
            rw [ts]
            omega
      · show s.toNat ≤ (T.bumped.trail ++ [-u]).length
        rw [List.length_append, tlen]; omega
    · have hz2 : z ∈ T.bumped.trail := by
        rw [tt]
        exact List.mem_of_getElem? (i := i) (by rw [List.getElem?_take_of_lt (by omega)]; exact hz)
      show (T.bumped.why.set (-u).natAbs _).getD z.natAbs 0 = _
      rw [getD_set (by rw [hI.sh.five.w]; exact hxn), if_neg (fun e0 => hfar z hz2 (by rw [← e0, Int.natAbs_neg]))]
      exact hwO i z hi hz
    · rw [put_why (by rw [hshk.five.w]; exact hxn)] at hw
      omega
    · have hnew := learnt_new h hN hL
      have hlt := miss_snoc_lt hnew
      unfold meas
      rw [show ((T.bumped.keep (-u :: y :: r)).put (-u) (T.bumped.l.length : Int)).l = S.l ++ [-u :: y :: r] by show T.bumped.l ++ [_] = _; rw [tl], hzS]
      have hz : zeros ((T.bumped.keep (-u :: y :: r)).put (-u) (T.bumped.l.length : Int)) = (S.starts.getD 0 0).toNat := by
        unfold zeros
        rw [if_neg (show ((T.bumped.keep (-u :: y :: r)).put (-u) (T.bumped.l.length : Int)).starts ≠ [] from hts)]
        show (T.bumped.starts.getD 0 0).toNat = _
        rw [ts, List.getD_eq_getElem?_getD, List.getD_eq_getElem?_getD, List.getElem?_take_of_lt (by omega)]
      rw [hz]
      omega
    · have hnew := learnt_new h hN hL
      have hlt := miss_snoc_lt hnew
      rw [show ((T.bumped.keep (-u :: y :: r)).put (-u) (T.bumped.l.length : Int)).l = S.l ++ [-u :: y :: r] by show T.bumped.l ++ [_] = _; rw [tl], List.length_append, List.length_singleton]
      omega
end Go.Proofs.Ytckimhhncpnkpaa.Sat
/- search: it ends, and what it answers is so. -/
namespace Go.Proofs.Ytckimhhncpnkpaa.Sat
set_option linter.unusedVariables false
open Go.Proofs.Ytckimhhncpnkpaa.Sep
/-! ### a level more -/
section
variable {S : Sol} {n p : Nat} {x : Int} {Cs : List (List Int)}
theorem Shape.push (h : Shape S n) : Shape S.push n := by
  refine ⟨⟨h.five.i, h.five.l, h.five.w, h.five.a, h.five.t⟩, h.pos, h.small, h.trv, h.nodup, h.isT, h.isF, h.last, ?_, fun s hs => ?_, fun i y hy => ?_, h.next⟩
  · show (S.starts ++ [(S.trail.length : Int)]).Pairwise (· ≤ ·)
    rw [List.pairwise_append]
    exact ⟨h.sorted, List.pairwise_singleton _ _, fun a ha b hb => by rw [List.mem_singleton.1 hb]; exact (h.stb a ha).2⟩
  · have hs' : s ∈ S.starts ++ [(S.trail.length : Int)] := hs
    rcases List.mem_append.1 hs' with h1 | h1
    · exact h.stb s h1
    · rw [List.mem_singleton.1 h1]; exact ⟨by omega, Int.le_refl _⟩
  · have hy' : S.trail[i]? = some y := hy
    show S.level.getD y.natAbs 0 = (lvAt (S.starts ++ [(S.trail.length : Int)]) i : Int)
    rw [lvAt_snoc (by have := get_lt hy'; omega)]
    exact h.lev i y hy'
theorem push_lv {i : Nat} (hi : i < S.trail.length) : lvAt S.push.starts i = lvAt S.starts i := lvAt_snoc (by omega)
theorem Inv.push (h : Inv Cs n p S) (hp : p = S.trail.length) : Inv Cs n p S.push := by
  refine ⟨h.sh.push, ⟨h.cl.two, h.cl.lit, h.cl.dist⟩, ⟨h.sem.cl, fun i y hy hl a ha => ?_, h.sem.no⟩, fun i y hy => ?_, h.wat, fun l hl => ?_, fun s hs => ?_, h.ple⟩
  · have hy' : S.trail[i]? = some y := hy
    rw [push_lv (get_lt hy')] at hl
    exact h.sem.zero i y hy' hl a ha
  · have hy' : S.trail[i]? = some y := hy
    rcases h.re i y hy' with ⟨h1, h2⟩ | h1
    · refine .inl ⟨h1, ?_⟩
      rw [push_lv (get_lt hy')]
      exact h2.imp id (fun h3 => List.mem_append.2 (.inl h3))
    · exact .inr h1
  · have key : ∀ w w', Fine S p w w' → Fine S.push p w w' := fun w w' hf i hi hx => by
      obtain ⟨j, hj, hl⟩ := hf i hi hx
      have hx' : S.trail[i]? = some (-w) := hx
      exact ⟨j, hj, by rw [push_lv (get_lt hj), push_lv (get_lt hx')]; exact hl⟩
    exact ⟨key _ _ (h.good l hl).1, key _ _ (h.good l hl).2⟩
  · have hs' : s ∈ S.starts ++ [(S.trail.length : Int)] := hs
    rcases List.mem_append.1 hs' with h1 | h1
    · exact h.st s h1
    · rw [List.mem_singleton.1 h1]; omega
theorem Full.push (h : Full Cs S) : Full Cs S.push := fun a h1 h2 => h a h1 (fun i y hy hl => h2 i y hy (by rw [push_lv (get_lt hy)]; exact hl))
/-- put of a decision. -/
theorem Inv.decided (h : Inv Cs n p S.push) (hp : p = S.trail.length) (h0 : x ≠ 0) (hx : x.natAbs < n) (h1 : x ∉ S.trail) (h2 : -x ∉ S.trail) : Inv Cs n p (S.push.put x (-1)) := by
  have hst : S.push.starts ≠ [] := by show S.starts ++ [_] ≠ []; simp
  refine ⟨h.sh.put h0 hx h1 h2, ⟨h.cl.two, h.cl.lit, h.cl.dist⟩, h.sem.put h.sh (fun e => absurd e hst), h.re.put h.sh h0 hx h1 h2 ?_, h.wat, fun l hl => (h.good l hl).put h.ple, h.st, ?_⟩
  · unfold Why
    rw [put_why (by rw [h.sh.five.w]; exact hx)]
    exact .inl ⟨rfl, .inr (by show ((S.trail.length : Nat) : Int) ∈ S.starts ++ [(S.trail.length : Int)]; simp)⟩
  · show p ≤ (S.trail ++ [x]).length
    rw [List.length_append]; omega
end
/-! ### the search's state -/
structure SI (Cs : List (List Int)) (As : List Int) (n p : Nat) (S : Sol) : Prop where
  inv : Inv Cs n p S
  as1 : ∀ (i : Nat) (x : Int), As[i]? = some x → i < S.starts.length → ∃ j, S.trail[j]? = some x ∧ lvAt S.starts j ≤ i + 1
  as2 : ∀ (i : Nat) (x : Int), S.trail[i]? = some x → S.why.getD x.natAbs 0 = -1 → 1 ≤ lvAt S.starts i → lvAt S.starts i ≤ As.length → As[lvAt S.starts i - 1]? = some x
  num : ∀ (j : Nat) (s : Int), S.starts[j]? = some s → (j : Int) ≤ As.length + s
  num2 : S.starts.length ≤ As.length + S.trail.length
section
variable {S S' : Sol} {n p q : Nat} {Cs : List (List Int)} {As : List Int}
theorem SI.ext (h : SI Cs As n p S) (he : Ext S S') (hi : Inv Cs n q S') : SI Cs As n q S' := by
  refine ⟨hi, fun i x hx hlt => ?_, fun i x hx hw h1 h2 => ?_, ?_, ?_⟩
  · rw [he.starts] at hlt ⊢
    obtain ⟨j, hj, hl⟩ := h.as1 i x hx hlt
    exact ⟨j, he.get hj, hl⟩
  · rw [he.starts] at h1 h2 ⊢
    by_cases hb : i < S.trail.length
    · obtain ⟨T, hT⟩ := he.trail
      rw [hT, List.getElem?_append_left hb] at hx
      rw [he.whyO x (get_mem hx)] at hw
      exact h.as2 i x hx hw h1 h2
    · have := he.whyN i x hx (by omega)
      omega
  · rw [he.starts]; exact h.num
  · rw [he.starts]
    obtain ⟨T, hT⟩ := he.trail
    have := h.num2
    rw [hT, List.length_append]; omega
theorem SI.jump (h : SI Cs As n p S) {m : Nat} {s x : Int} (hj : Jump S S' m s x) (hi : Inv Cs n q S') : SI Cs As n q S' := by
  have hm := get_lt hj.at_
  have hsb := h.inv.sh.stb s (get_mem hj.at_)
  have far : ∀ i : Nat, (i : Int) < s → S'.trail[i]? = S.trail[i]? := fun i hi => by
    rw [hj.trail, List.getElem?_append_left (by rw [List.length_take]; omega), List.getElem?_take_of_lt (by omega)]
  have lv : ∀ i : Nat, (i : Int) < s → lvAt S'.starts i = lvAt S.starts i := fun i hi => by rw [hj.starts]; exact lvAt_take h.inv.sh.sorted hj.at_ hi
  have ht : S'.trail.length = s.toNat + 1 := by rw [hj.trail, List.length_append, List.length_take, List.length_singleton]; omega
  refine ⟨hi, fun i y hy hlt => ?_, fun i y hy hw h1 h2 => ?_, fun j t hjt => ?_, ?_⟩
  · rw [hj.starts, List.length_take] at hlt
    obtain ⟨z, hq, hl⟩ := h.as1 i y hy (by omega)
    have hqs : (z : Int) < s := by
      refine Int.not_le.1 (fun hle => ?_)
      have := lvAt_ge h.inv.sh.sorted hj.at_ hle
      omega
    exact ⟨z, by rw [far z hqs]; exact hq, by rw [lv z hqs]; exact hl⟩
  · by_cases hb : (i : Int) < s
    · rw [far i hb] at hy
      rw [hj.whyO i y hb hy] at hw
      rw [lv i hb] at h1 h2 ⊢
      exact h.as2 i y hy hw h1 h2
    · have hil := get_lt hy
      have hie : i = s.toNat := by omega
      rw [hj.trail, List.getElem?_append_right (by rw [List.length_take]; omega), List.length_take, hie, show s.toNat - min s.toNat S.trail.length = 0 by omega] at hy
      obtain rfl : x = y := by simpa using hy
      have := hj.whyN hw
      rw [hj.starts, this] at h1
      exact absurd h1 (by simp [lvAt])
  · rw [hj.starts] at hjt
    exact h.num j t (take_get hjt).2
  · rw [hj.starts, List.length_take, ht]
    have := h.num m s hj.at_
    omega
theorem SI.back (h : SI Cs As n S.next.toNat S) : SI Cs As n (S.back 0).next.toNat (S.back 0) ∧ (S.back 0).starts = [] ∧ (S.back 0).l = S.l ∧ (S.back 0).vars = S.vars ∧ (S.back 0).added = S.added ∧ (S.back 0).nothing = S.nothing ∧ (Full Cs S → Full Cs (S.back 0)) ∧ (S.next = (S.trail.length : Int) → (S.back 0).next = ((S.back 0).trail.length : Int)) ∧ zeros (S.back 0) = zeros S := by
  by_cases h0 : S.starts = []
  · have e : S.back 0 = S := by unfold Sol.back; rw [if_pos (by rw [h0]; exact Nat.le_refl _)]
    rw [e]
    exact ⟨h, h0, rfl, rfl, rfl, rfl, id, id, rfl⟩
  · have hl : 0 < S.starts.length := List.length_pos_iff.2 h0
    obtain ⟨s, hs⟩ : ∃ s, S.starts[0]? = some s := ⟨_, List.getElem?_eq_getElem hl⟩
    rw [back_eq hl]
    obtain ⟨b1, b2, b3, e1, e2, e3, e4, e5, e6, e7, e8, e9, _, _, _, g2, _⟩ := backed_eq h.inv.sh hs
    have hi := h.inv.backed hs
    have hst : (S.backed 0).starts = [] := by rw [e2]; rfl
    have hlen : (S.backed 0).trail.length = s.toNat := by rw [e1, List.length_take]; omega
    refine ⟨⟨by rw [e3]; exact hi, fun i x hx hlt => ?_, fun i x hx hw h1 h2 => ?_, fun j t hjt => ?_, ?_⟩, hst, e4, e8, e9, e7, fun hf => Full.backed h.inv.sh hs hf, fun _ => by rw [e3, hlen]; omega, ?_⟩
    · rw [hst] at hlt; simp at hlt
    · rw [hst] at h1; simp [lvAt] at h1
    · rw [hst] at hjt; simp at hjt
    · rw [hst]; simp
    · unfold zeros
      rw [if_pos hst, if_neg h0, hlen, b3]
/-- A literal that is not false is tried. -/
theorem SI.try (h : SI Cs As n S.next.toNat S) (hp : S.next = (S.trail.length : Int)) {x : Int} (h0 : x ≠ 0) (hx : x.natAbs < n) (hf : -x ∉ S.trail) (hc : As[S.starts.length]? = some x ∨ (As.length ≤ S.starts.length ∧ x ∉ S.trail)) :
    ∃ S', S.tryLit x = some S' ∧ SI Cs As n S'.next.toNat S' ∧ S'.starts.length = S.starts.length + 1 ∧ S'.l = S.l ∧ S'.vars = S.vars ∧ S'.added = S.added ∧ S'.nothing = S.nothing ∧ (Full Cs S → Full Cs S') ∧ zeros S' = zeros S := by
  have hpn : S.next.toNat = S.trail.length := by omega
  have hpush := h.inv.push hpn
  obtain ⟨t, ht, hcs⟩ := hpush.sh.truth h0 hx
  have lv : ∀ i, i < S.trail.length → lvAt S.push.starts i = lvAt S.starts i := fun i hi => push_lv hi
  have hsl : S.push.starts.length = S.starts.length + 1 := by show (S.starts ++ [_]).length = _; rw [List.length_append]; rfl
  have hz : ∀ R : Sol, R.starts = S.push.starts → (∃ T, R.trail = S.trail ++ T) → zeros R = zeros S := fun R hR ⟨T, hT⟩ => by
    unfold zeros
    have e : R.starts = S.starts ++ [(S.trail.length : Int)] := hR
    rw [if_neg (by rw [e]; simp), e]
    by_cases hs0 : S.starts = []
    · rw [if_pos hs0, hs0]; simp
    · rw [if_neg hs0]
      have hl : 0 < S.starts.length := List.length_pos_iff.2 hs0
      rw [List.getD_eq_getElem?_getD, List.getD_eq_getElem?_getD, List.getElem?_append_left hl]
  have hnum : ∀ (j : Nat) (s : Int), S.push.starts[j]? = some s → (j : Int) ≤ As.length + s := fun j s hj => by
    have hj' : (S.starts ++ [(S.trail.length : Int)])[j]? = some s := hj
    by_cases hjl : j < S.starts.length
    · rw [List.getElem?_append_left hjl] at hj'
      exact h.num j s hj'
    · have := get_lt hj'
      rw [List.length_append, List.length_singleton] at this
      rw [List.getElem?_append_right (by omega), show j - S.starts.length = 0 by omega] at hj'
      have e : (S.trail.length : Int) = s := by simpa using hj'
      have := h.num2
      omega
  unfold Sol.tryLit
  rw [ht]
  dsimp only
  by_cases h1 : t = 0
  · rw [if_pos h1, if_pos (hpush.sh.mayPut hx)]
    have hxt : x ∉ S.trail := by
      rcases hcs with ⟨e, _⟩ | ⟨e, _⟩ | ⟨_, e, _⟩
      · omega
      · omega
      · exact e
    have hI := Inv.decided (x := x) hpush hpn h0 hx hxt hf
    have tl : ∀ i, i < S.trail.length → (S.push.put x (-1)).trail[i]? = S.trail[i]? := fun i hi => put_trail_lt (S := S.push) hi
    refine ⟨_, rfl, ⟨by rw [show (S.push.put x (-1)).next = S.next from rfl]; exact hI, fun i y hy hlt => ?_, fun i y hy hw h2 h3 => ?_, hnum, ?_⟩, hsl, rfl, rfl, rfl, rfl, fun hf => hf.push.put, hz _ rfl ⟨[x], rfl⟩⟩
    · by_cases hi : i < S.starts.length
      · obtain ⟨j, hj, hl⟩ := h.as1 i y hy hi
        exact ⟨j, by rw [tl j (get_lt hj)]; exact hj, by rw [show lvAt (S.push.put x (-1)).starts j = lvAt S.push.starts j from rfl, lv j (get_lt hj)]; exact hl⟩
      · have hlt' : i < S.push.starts.length := hlt
        have hie : i = S.starts.length := by omega
        rw [hie] at hy
        rcases hc with hc | ⟨hc, _⟩
        · obtain rfl := Option.some.inj (hc.symm.trans hy)
          refine ⟨S.push.trail.length, put_trail_len (S := S.push), ?_⟩
          have := lvAt_le S.push.starts S.push.trail.length
          rw [hie]
          show lvAt S.push.starts _ ≤ _
          omega
        · have := get_lt hy; omega
    · rcases put_trail_cases (S := S.push) hy with ⟨hi, hy'⟩ | ⟨hi, rfl⟩
      · have hi' : i < S.trail.length := hi
        have hy2 : S.trail[i]? = some y := hy'
        have e : (S.push.put x (-1)).why.getD y.natAbs 0 = S.why.getD y.natAbs 0 := by
          show (S.why.set x.natAbs (-1)).getD y.natAbs 0 = _
          rw [getD_set (by rw [h.inv.sh.five.w]; exact hx), if_neg (h.inv.sh.far hxt hf (get_mem hy2))]
        rw [e] at hw
        rw [show lvAt (S.push.put x (-1)).starts i = lvAt S.push.starts i from rfl, lv i hi'] at h2 h3 ⊢
        exact h.as2 i y hy2 hw h2 h3
      · have hlv : lvAt (S.push.put y (-1)).starts i = S.starts.length + 1 := by
          show lvAt S.push.starts i = _
          rw [← hsl]
          exact lvAt_full (fun s hs => by have := (hpush.sh.stb s hs).2; rw [hi]; exact this)
        rw [hlv] at h3 ⊢
        rcases hc with hc | ⟨hc, _⟩
        · exact hc
        · omega
    · show S.push.starts.length ≤ As.length + (S.trail ++ [x]).length
      rw [hsl, List.length_append, List.length_singleton]
      have := h.num2
      omega
  · rw [if_neg h1]
    have hxt : x ∈ S.trail := by
      rcases hcs with ⟨_, e⟩ | ⟨_, e⟩ | ⟨e, _⟩
      · exact e
      · exact absurd e hf
      · exact absurd e h1
    have hcA : As[S.starts.length]? = some x := hc.resolve_right (fun h => h.2 hxt)
    refine ⟨_, rfl, ⟨hpush, fun i y hy hlt => ?_, fun i y hy hw h2 h3 => ?_, hnum, ?_⟩, hsl, rfl, rfl, rfl, rfl, fun hf => hf.push, hz _ rfl ⟨[], by rw [List.append_nil]; rfl⟩⟩
    · by_cases hi : i < S.starts.length
      · obtain ⟨j, hj, hl⟩ := h.as1 i y hy hi
        exact ⟨j, hj, by rw [lv j (get_lt hj)]; exact hl⟩
      · have hie : i = S.starts.length := by omega
        rw [hie] at hy
        obtain rfl := Option.some.inj (hcA.symm.trans hy)
        obtain ⟨j, hj⟩ := List.mem_iff_getElem?.1 hxt
        exact ⟨j, hj, by rw [lv j (get_lt hj), hie]; exact Nat.le_trans (lvAt_le _ _) (by omega)⟩
    · have hy' : S.trail[i]? = some y := hy
      rw [lv i (get_lt hy')] at h2 h3 ⊢
      exact h.as2 i y hy' hw h2 h3
    · rw [hsl]
      have := get_lt hcA
      have e : S.push.trail = S.trail := rfl
      omega
/-- What is true under assumptions follows from them. -/
theorem SI.follows (h : SI Cs As n p S) (hl : S.starts.length ≤ As.length) (a : Nat → Bool) (ha : fits Cs a) (hA : ∀ (i : Nat) (x : Int), i < S.starts.length → As[i]? = some x → tv a x = true) : ∀ (i : Nat) (y : Int), S.trail[i]? = some y → tv a y = true := by
  intro i
  induction i using Nat.strongRecOn with
  | _ i ih =>
    intro y hy
    rcases h.inv.re i y hy with ⟨h1, h2⟩ | ⟨h1, l, h2, h3, h4⟩
    · by_cases hz : lvAt S.starts i = 0
      · exact h.inv.sem.zero i y hy hz a ha
      · have h5 := lvAt_le S.starts i
        have := h.as2 i y hy h1 (by omega) (by omega)
        exact hA _ y (by omega) this
    · obtain ⟨z, hz, hzt⟩ := h.inv.sem.cl l (get_mem h2) a ha
      by_cases e : z = y
      · rw [← e]; exact hzt
      · obtain ⟨j, hj, hjz⟩ := h4 z hz e
        have := ih j hj (-z) hjz
        rw [tv_neg a (h.inv.cl.lit l (get_mem h2) z hz).1, hzt] at this
        cases this
end
/-! ### decide -/
theorem decide_spec {S : Sol} {n vars : Nat} (h : Shape S n) (hv : vars < n) : ∀ (d v best : Nat), v + d = vars + 1 → 1 ≤ v → (best = 0 ∧ (∀ u, 1 ≤ u → u < v → S.is.getD u 0 ≠ 0)) ∨ (1 ≤ best ∧ best ≤ vars ∧ S.is.getD best 0 = 0) →
    ∃ b, S.decide' d v best = some b ∧ ((b = 0 ∧ ∀ u, 1 ≤ u → u ≤ vars → S.is.getD u 0 ≠ 0) ∨ (1 ≤ b ∧ b ≤ vars ∧ S.is.getD b 0 = 0))
  | 0, v, best, hd, h1, hb => ⟨best, rfl, hb.imp (fun hb => ⟨hb.1, fun u h2 h3 => hb.2 u h2 (by omega)⟩) id⟩
  | d + 1, v, best, hd, h1, hb => by
    have hvn : v < n := by omega
    unfold Sol.decide'
    rw [show S.is[v]? = some (S.is.getD v 0) from getD_get (by rw [h.five.i]; exact hvn)]
    dsimp only
    by_cases h2 : S.is.getD v 0 ≠ 0
    · rw [if_pos h2]
      refine decide_spec h hv d (v + 1) best (by omega) (by omega) (hb.imp (fun hb => ⟨hb.1, fun u h3 h4 => ?_⟩) id)
      by_cases e : u = v
      · rw [e]; exact h2
      · exact hb.2 u h3 (by omega)
    · rw [if_neg h2]
      have h2' : S.is.getD v 0 = 0 := Classical.not_not.1 h2
      by_cases h3 : best = 0
      · rw [if_pos h3]
        exact decide_spec h hv d (v + 1) v (by omega) (by omega) (.inr ⟨h1, by omega, h2'⟩)
      · rw [if_neg h3]
        have hbb : 1 ≤ best ∧ best ≤ vars ∧ S.is.getD best 0 = 0 := hb.resolve_left (fun h => h3 h.1)
        rw [show S.act[v]? = some (S.act.getD v 0) from getD_get (by rw [h.five.a]; exact hvn), show S.act[best]? = some (S.act.getD best 0) from getD_get (by rw [h.five.a]; omega)]
        dsimp only
        split
        · exact decide_spec h hv d (v + 1) v (by omega) (by omega) (.inr ⟨h1, by omega, h2'⟩)
        · exact decide_spec h hv d (v + 1) best (by omega) (by omega) (.inr hbb)
theorem pick_lit {S : Sol} {n vars : Nat} (h : Shape S n) (hv : vars < n) (seed : Int) : ∃ x, S.pickLit seed vars = some x ∧ ((x = 0 ∧ ∀ u, 1 ≤ u → u ≤ vars → S.is.getD u 0 ≠ 0) ∨ (x ≠ 0 ∧ x.natAbs < n ∧ x ∉ S.trail ∧ -x ∉ S.trail)) := by
  obtain ⟨b, hb, hc⟩ := decide_spec h hv vars 1 0 (by omega) (Nat.le_refl _) (.inl ⟨rfl, fun u h1 h2 => by omega⟩)
  unfold Sol.pickLit
  rw [hb]
  dsimp only
  by_cases h0 : b = 0
  · rw [if_pos h0]
    exact ⟨0, rfl, .inl ⟨rfl, (hc.resolve_right (fun h => by omega)).2⟩⟩
  · rw [if_neg h0]
    obtain ⟨b1, b2, b3⟩ := hc.resolve_left (fun h => h0 h.1)
    have hbl : b < S.last.length := by rw [h.five.t]; omega
    rw [show S.last[b]? = some (S.last.getD b 0) from getD_get hbl]
    dsimp only
    have hl := h.last _ (get_mem (getD_get (d := 0) hbl))
    rw [if_pos hl]
    obtain ⟨sg, hsg, hs1⟩ : ∃ sg : Int, (if S.last.getD b 0 ≠ 0 then S.last.getD b 0 else if seedBit seed b = 0 then -1 else 1) = sg ∧ (sg = 1 ∨ sg = -1) := by
      refine ⟨_, rfl, ?_⟩
      split
      · rename_i h5; exact hl.resolve_left h5
      · split <;> simp
    rw [hsg]
    have hab : (sg * (b : Int)).natAbs = b := by rcases hs1 with rfl | rfl <;> omega
    have hno : ∀ y ∈ S.trail, y.natAbs ≠ b := fun y hy e => by
      have := h.isT y hy
      rw [e, b3] at this
      rcases sgn1_cases y with h | h <;> omega
    exact ⟨_, rfl, .inr ⟨by omega, by omega, fun hin => hno _ hin hab, fun hin => hno _ hin (by rw [Int.natAbs_neg]; exact hab)⟩⟩
end Go.Proofs.Ytckimhhncpnkpaa.Sat
/- search ends, and what it answers is so. -/
namespace Go.Proofs.Ytckimhhncpnkpaa.Sat
set_option linter.unusedVariables false
open Go.Proofs.Ytckimhhncpnkpaa.Sep
/-- A meter that is never over. -/
def MOk (m : Option Mtr) : Prop := m = none ∨ ∃ x, m = some x ∧ x.over = false ∧ x.budget < 1
theorem MOk.spend {m : Option Mtr} (h : MOk m) : MOk (spend m).1 ∧ (spend m).2 = true := by
  rcases h with rfl | ⟨x, rfl, h1, h2⟩
  · exact ⟨.inl rfl, rfl⟩
  · unfold Sat.spend
    dsimp only
    rw [if_neg (by rw [h1]; decide), if_pos h2]
    exact ⟨.inr ⟨_, rfl, h1, h2⟩, rfl⟩
theorem spend_over {m : Option Mtr} (h : (spend m).2 = false) : ∃ x, (spend m).1 = some x ∧ x.over = true := by
  match m, h with
  | none, h => cases h
  | some x, h =>
    unfold spend at h ⊢
    dsimp only at h ⊢
    by_cases h1 : x.over = true
    · rw [if_pos h1]; exact ⟨_, rfl, h1⟩
    · rw [if_neg h1] at h ⊢
      by_cases h2 : x.budget < 1
      · rw [if_pos h2] at h; cases h
      · rw [if_neg h2] at h ⊢
        by_cases h3 : x.budget - x.spent < 1
        · rw [if_pos h3]; exact ⟨_, rfl, rfl⟩
        · rw [if_neg h3] at h; cases h
/-- What search leaves, and answers. -/
structure Found (Cs : List (List Int)) (As : List Int) (n vars B N : Nat) (S0 : Sol) (m : Option Mtr) (S' : Sol) (m' : Option Mtr) (r : Int) : Prop where
  rest : ∃ p, Inv Cs n p S' ∧ (S'.nothing = false → S'.next = (p : Int) ∧ Full Cs S' ∧ SI Cs As n p S') ∧ (S'.nothing = true → S'.starts = [])
  size : S'.l.length + miss N S'.l ≤ B
  varsE : S'.vars = S0.vars
  addedE : S'.added = S0.added
  res : (r = 1 ∧ S'.nothing = false ∧ (∀ u, 1 ≤ u → u ≤ vars → S'.is.getD u 0 ≠ 0) ∧ (∀ x ∈ As, x ∈ S'.trail) ∧ S'.next = (S'.trail.length : Int)) ∨
    (r = 2 ∧ ∀ a, fits Cs a → ∃ x ∈ As, tv a x = false) ∨ (r = 2 ∧ ∀ a, ¬ fits Cs a) ∨ (r = 3 ∧ ∃ x, m' = some x ∧ x.over = true)
  ok : MOk m → r ≠ 3
/-- What is left to do. -/
def left_ (As : List Int) (N : Nat) (S : Sol) (c lim : Int) : Nat := (2 * meas N S + (if lim < c then 1 else 0)) * (As.length + N + 1) + (As.length + N - S.starts.length)
theorem left_lt1 {K M M' r r' d d' : Nat} (h : M' < M) (hr : r' ≤ 1) (hd : d' < K) : (2 * M' + r') * K + d' < (2 * M + r) * K + d := by
  have h1 : (2 * M' + r' + 1) * K ≤ (2 * M + r) * K := Nat.mul_le_mul_right K (by omega)
  rw [Nat.add_mul, Nat.one_mul] at h1
  omega
theorem left_lt2 {K M r d d' : Nat} (hr : r = 1) (hd : d' < K) : (2 * M + 0) * K + d' < (2 * M + r) * K + d := by
  rw [hr, Nat.add_mul (2 * M) 1 K, Nat.one_mul, Nat.add_zero]
  omega
/-- What the program's numbers can bear. -/
def Ok (S : Sol) : Prop := (∃ n, Five S n ∧ n ≤ 1000000) ∧ (∀ x ∈ S.trail, x.natAbs ≤ 1000000000) ∧ S.trail.length ≤ 1000000000 ∧ S.starts.length ≤ 1000000000 ∧ S.l.length ≤ 1000000000
theorem Inv.ok {Cs : List (List Int)} {n p : Nat} {S : Sol} (h : Inv Cs n p S) (hst : S.starts.length ≤ 1000000000) (hl : S.l.length ≤ 1000000000) : Ok S := by
  have h1 := h.sh.small
  have h2 := h.sh.len
  exact ⟨⟨n, h.sh.five, h1⟩, fun x hx => by have := (h.sh.trv x hx).2; omega, by omega, hst, hl⟩
open Classical in
/-- search, of solvers that the program's numbers can bear. -/
noncomputable def run (assume : List Int) (seed : Int) (vars : Nat) : Nat → Option Mtr → Sol → Int → Int → Option (Sol × Option Mtr × Int)
  | 0, _, _, _, _ => none
  | f + 1, m, S, c, lim =>
    if ¬ Ok S then none else
    if S.nothing = true then some (S, m, 2) else
    if (spend m).2 = false then some (S, (spend m).1, 3) else
    match S.follow (S.is.length + 1) with
    | none => none
    | some (S1, k) =>
      if ¬ Ok S1 then none else
      if 0 ≤ k then
        match S1.conflict k with
        | none => none
        | some S2 => if 0 ≤ c ∧ c ≤ 1000000000000 then run assume seed vars f (spend m).1 S2 (c + 1) lim else none
      else
        if lim < c ∧ ¬ (S1.mayBack 0 ∧ 0 ≤ lim ∧ lim ≤ 1000000000000) then none else
        if 1000000000 < (if lim < c then S1.back 0 else S1).starts.length then none else
        match assume[(if lim < c then S1.back 0 else S1).starts.length]? with
        | some x =>
          match (if lim < c then S1.back 0 else S1).truth x with
          | none => none
          | some t =>
            if t = -1 then some (if lim < c then S1.back 0 else S1, (spend m).1, 2) else
            match (if lim < c then S1.back 0 else S1).tryLit x with
            | none => none
            | some S3 => run assume seed vars f (spend m).1 S3 (if lim < c then 0 else c) (if lim < c then lim + lim / 2 else lim)
        | none =>
          match (if lim < c then S1.back 0 else S1).pickLit seed vars with
          | none => none
          | some x =>
            if x = 0 then some (if lim < c then S1.back 0 else S1, (spend m).1, 1) else
            match (if lim < c then S1.back 0 else S1).tryLit x with
            | none => none
            | some S3 => run assume seed vars f (spend m).1 S3 (if lim < c then 0 else c) (if lim < c then lim + lim / 2 else lim)
theorem search_spec {Cs : List (List Int)} {As : List Int} {n vars B N T : Nat} {seed : Int} (hN : n ≤ N) (hv : vars < n) (hB : B ≤ 1000000000) (hT : T ≤ 100000000000) (hA : ∀ x ∈ As, x ≠ 0 ∧ x.natAbs < n) (hAl : As.length + N ≤ 1000000000) :
    ∀ (μ : Nat) (m : Option Mtr) (S : Sol) (c lim : Int), left_ As N S c lim ≤ μ → SI Cs As n S.next.toNat S → S.nothing = false → Full Cs S → S.l.length + miss N S.l ≤ B → 0 ≤ c → c + meas N S ≤ (T : Int) → 60 ≤ lim → lim ≤ 60 + 2 * (T : Int) →
    ∃ f S' m' r, run As seed vars f m S c lim = some (S', m', r) ∧ Found Cs As n vars B N S m S' m' r := by
  intro μ
  induction μ using Nat.strongRecOn with
  | _ μ ih =>
  intro m S c lim hμ hI hno hF hsz hc0 hcT hl0 hlT
  have hok : Ok S := hI.inv.ok (by have := hI.num2; have := hI.inv.sh.len; omega) (by omega)
  -- one round, told apart by what becomes of the fuel
  by_cases hsp : (spend m).2 = false
  · refine ⟨1, S, (spend m).1, 3, ?_, ⟨⟨S.next.toNat, hI.inv, fun _ => ⟨by have := hI.inv.sh.next; omega, hF, hI⟩, fun h => absurd h (by rw [hno]; decide)⟩, hsz, rfl, rfl, .inr (.inr (.inr ⟨rfl, spend_over hsp⟩)), fun hm => absurd hm.spend.2 (by rw [hsp]; decide)⟩⟩
    unfold run
    rw [if_neg (fun h => h hok), if_neg (by rw [hno]; decide), if_pos hsp]
  · have hbig : S.l.length ≤ 1000000000 := by omega
    have hfuel : n < (S.is.length + 1) + S.next.toNat := by rw [hI.inv.sh.five.i]; omega
    obtain ⟨S1, k, e1, hext, hres⟩ := follow_spec (S.is.length + 1) S hfuel hI.inv hbig
    have hm1 : miss N S1.l = miss N S.l := (miss_alike hext.alike).symm
    have hlen1 : S1.l.length = S.l.length := hext.alike.1.symm
    have hno1 : S1.nothing = false := hext.nothing.trans hno
    have hF1 := hext.full hF
    have hok1 : Ok S1 := (show ∃ q, Inv Cs n q S1 by rcases hres with ⟨_, h, _⟩ | ⟨p, _, h, _⟩; exact ⟨_, h⟩; exact ⟨_, h⟩).elim fun _ h => h.ok (by rw [hext.starts]; exact hok.2.2.2.1) (by omega)
    rcases hres with ⟨hk, hI1, hnx⟩ | ⟨p, hp, hI1, hC⟩
    · -- nothing is wrong
      have hS1 := hI.ext hext hI1
      have hz1 : zeros S ≤ zeros S1 := by
        unfold zeros
        obtain ⟨R, hR⟩ := hext.trail
        rw [hext.starts]
        split
        · rw [hR, List.length_append]; omega
        · exact Nat.le_refl _
      have hmeas1 : meas N S1 ≤ meas N S := by unfold meas; rw [hm1]; omega
      -- perhaps it begins anew
      obtain ⟨S2, hS2e, hS2, hl2, hv2, ha2, hn2, hF2, hnx2, hst2, hz2⟩ : ∃ S2, (if lim < c then S1.back 0 else S1) = S2 ∧ SI Cs As n S2.next.toNat S2 ∧ S2.l = S1.l ∧ S2.vars = S1.vars ∧ S2.added = S1.added ∧ S2.nothing = S1.nothing ∧ Full Cs S2 ∧ S2.next = (S2.trail.length : Int) ∧ (¬ lim < c → S2 = S1) ∧ zeros S2 = zeros S1 := by
        by_cases hlc : lim < c
        · rw [if_pos hlc]
          obtain ⟨a1, a2, a3, a4, a5, a6, a7, a8, a9⟩ := hS1.back
          exact ⟨_, rfl, a1, a3, a4, a5, a6, a7 hF1, a8 hnx, fun h => absurd hlc h, a9⟩
        · rw [if_neg hlc]
          exact ⟨S1, rfl, hS1, rfl, rfl, rfl, rfl, hF1, hnx, fun _ => rfl, rfl⟩
      have hmeas2 : meas N S2 ≤ meas N S := by
        have : meas N S2 = meas N S1 := by unfold meas; rw [hl2, hz2]
        omega
      have hno2 : S2.nothing = false := hn2.trans hno1
      have hsz2 : S2.l.length + miss N S2.l ≤ B := by rw [hl2, hlen1, hm1]; exact hsz
      have hrest2 : ∃ p, Inv Cs n p S2 ∧ (S2.nothing = false → S2.next = (p : Int) ∧ Full Cs S2 ∧ SI Cs As n p S2) ∧ (S2.nothing = true → S2.starts = []) := ⟨S2.next.toNat, hS2.inv, fun _ => ⟨by have := hS2.inv.sh.next; omega, hF2, hS2⟩, fun h => absurd h (by rw [hno2]; decide)⟩
      have hvars2 : S2.vars = S.vars := hv2.trans hext.vars
      have hadd2 : S2.added = S.added := ha2.trans hext.added
      have hb1 : ¬ (lim < c ∧ ¬ (S1.mayBack 0 ∧ 0 ≤ lim ∧ lim ≤ 1000000000000)) := fun h => h.2 ⟨hS1.inv.sh.mayBack 0, by omega, by omega⟩
      have htl := hS2.inv.sh.len
      have hn22 := hS2.num2
      have hb2 : ¬ (1000000000 < S2.starts.length) := by omega
      -- a literal is tried
      have go : ∀ x, x ≠ 0 → x.natAbs < n → -x ∉ S2.trail → (As[S2.starts.length]? = some x ∨ (As.length ≤ S2.starts.length ∧ x ∉ S2.trail)) →
          ∃ S3 f S' m' r, S2.tryLit x = some S3 ∧ run As seed vars f (spend m).1 S3 (if lim < c then 0 else c) (if lim < c then lim + lim / 2 else lim) = some (S', m', r) ∧ Found Cs As n vars B N S m S' m' r := fun x h0 hx hf hcx => by
        obtain ⟨S3, e3, hI3, hsl3, hl3, hv3, ha3, hn3, hF3, hz3⟩ := hS2.try hnx2 h0 hx hf hcx
        have hm3 : meas N S3 = meas N S2 := by unfold meas; rw [hl3, hz3]
        have hn23 := hI3.num2
        have htl3 := hI3.inv.sh.len
        have hdec : left_ As N S3 (if lim < c then 0 else c) (if lim < c then lim + lim / 2 else lim) < μ := by
          refine Nat.lt_of_lt_of_le ?_ hμ
          unfold left_
          rw [hm3]
          by_cases hlc : lim < c
          · rw [if_pos hlc, if_pos hlc, if_neg (by omega), if_pos hlc]
            by_cases hmm : meas N S2 < meas N S
            · exact left_lt1 hmm (by omega) (by omega)
            · rw [show meas N S2 = meas N S by omega]
              exact left_lt2 rfl (by omega)
          · rw [if_neg hlc, if_neg hlc, if_neg hlc]
            by_cases hmm : meas N S2 < meas N S
            · exact left_lt1 hmm (by omega) (by omega)
            · rw [show meas N S2 = meas N S by omega]
              have : S2.starts = S.starts := by rw [hst2 hlc]; exact hext.starts
              rw [this] at hsl3
              omega
        obtain ⟨f, S', m', r, e4, hfd⟩ := ih _ hdec (spend m).1 S3 (if lim < c then 0 else c) (if lim < c then lim + lim / 2 else lim) (Nat.le_refl _) hI3 (hn3.trans hno2) (hF3 hF2) (by rw [hl3]; exact hsz2) (by split <;> omega) (by rw [hm3]; split <;> omega) (by split <;> omega) (by split <;> omega)
        exact ⟨S3, f, S', m', r, e3, e4, hfd.rest, hfd.size, hfd.varsE.trans (hv3.trans hvars2), hfd.addedE.trans (ha3.trans hadd2), hfd.res, fun hm => hfd.ok hm.spend.1⟩
      -- the round's equation
      have eq1 : ∀ f, run As seed vars (f + 1) m S c lim = (match As[S2.starts.length]? with
          | some x => match S2.truth x with
            | none => none
            | some t => if t = -1 then some (S2, (spend m).1, 2) else match S2.tryLit x with
              | none => none
              | some S3 => run As seed vars f (spend m).1 S3 (if lim < c then 0 else c) (if lim < c then lim + lim / 2 else lim)
          | none => match S2.pickLit seed vars with
            | none => none
            | some x => if x = 0 then some (S2, (spend m).1, 1) else match S2.tryLit x with
              | none => none
              | some S3 => run As seed vars f (spend m).1 S3 (if lim < c then 0 else c) (if lim < c then lim + lim / 2 else lim)) := fun f => by
        rw [run]
        rw [if_neg (fun h => h hok), if_neg (by rw [hno]; decide), if_neg hsp, e1]
        dsimp only
        rw [if_neg (fun h => h hok1), if_neg (show ¬ (0 ≤ k) by omega), if_neg hb1, hS2e, if_neg hb2]
      match hAx : As[S2.starts.length]? with
      | some x =>
        have hxA := get_mem hAx
        obtain ⟨hx0, hxn⟩ := hA x hxA
        obtain ⟨t, ht, hcs⟩ := hS2.inv.sh.truth hx0 hxn
        by_cases h1 : t = -1
        · have hxt : -x ∈ S2.trail := by
            rcases hcs with ⟨e, _⟩ | ⟨_, e⟩ | ⟨e, _⟩
            · omega
            · exact e
            · omega
          refine ⟨1, S2, (spend m).1, 2, ?_, hrest2, hsz2, hvars2, hadd2, .inr (.inl ⟨rfl, fun a ha => ?_⟩), fun _ => by decide⟩
          · rw [eq1 0, hAx]
            dsimp only
            rw [ht]
            dsimp only
            rw [if_pos h1]
          · refine Classical.byContradiction (fun hne => ?_)
            have hall : ∀ z ∈ As, tv a z = true := fun z hz => by
              rcases Bool.eq_false_or_eq_true (tv a z) with e | e
              · exact e
              · exact absurd ⟨z, hz, e⟩ hne
            obtain ⟨i, hi⟩ := List.mem_iff_getElem?.1 hxt
            have := hS2.follows (by have := get_lt hAx; omega) a ha (fun i z _ hz => hall z (get_mem hz)) i (-x) hi
            rw [tv_neg a hx0, hall x hxA] at this
            cases this
        · have hnf : -x ∉ S2.trail := fun hin => by
            rcases hcs with ⟨_, e⟩ | ⟨e, _⟩ | ⟨_, _, e⟩
            · exact hS2.inv.sh.not_both e hin
            · exact h1 e
            · exact e hin
          obtain ⟨S3, f, S', m', r, e3, e4, hfd⟩ := go x hx0 hxn hnf (.inl hAx)
          refine ⟨f + 1, S', m', r, ?_, hfd⟩
          rw [eq1 f, hAx]
          dsimp only
          rw [ht]
          dsimp only
          rw [if_neg h1, e3]
          exact e4
      | none =>
        have hAl2 := List.getElem?_eq_none_iff.1 hAx
        obtain ⟨x, ex, hcx⟩ := pick_lit hS2.inv.sh hv seed
        by_cases h0 : x = 0
        · have hall := (hcx.resolve_right (fun h => h.1 h0)).2
          refine ⟨1, S2, (spend m).1, 1, ?_, hrest2, hsz2, hvars2, hadd2, .inl ⟨rfl, hno2, hall, fun z hz => ?_, hnx2⟩, fun _ => by decide⟩
          · rw [eq1 0, hAx]
            dsimp only
            rw [ex]
            dsimp only
            rw [if_pos h0]
          · obtain ⟨i, hi⟩ := List.mem_iff_getElem?.1 hz
            obtain ⟨j, hj, _⟩ := hS2.as1 i z hi (by have := get_lt hi; omega)
            exact get_mem hj
        · obtain ⟨_, hxn, hxt, hxf⟩ := hcx.resolve_left (fun h => h0 h.1)
          obtain ⟨S3, f, S', m', r, e3, e4, hfd⟩ := go x h0 hxn hxf (.inr ⟨hAl2, hxt⟩)
          refine ⟨f + 1, S', m', r, ?_, hfd⟩
          rw [eq1 f, hAx]
          dsimp only
          rw [ex]
          dsimp only
          rw [if_neg h0, e3]
          exact e4
    · -- a conflict
      have hk0 := hC.r0
      have hcn : (0 ≤ c ∧ c ≤ 1000000000000) := ⟨hc0, by omega⟩
      by_cases hst : S1.starts = []
      · -- on the lowest level: nothing fits
        have hno3 : ∀ a, ¬ fits Cs a := fun a ha => by
          obtain ⟨l, hl, _, hall⟩ := hC.l
          obtain ⟨y, hy, hyt⟩ := hI1.sem.cl l (get_mem hl) a ha
          obtain ⟨j, hj⟩ := List.mem_iff_getElem?.1 (hall y hy)
          have := hI1.sem.zero j (-y) hj (by rw [hst]; rfl) a ha
          rw [tv_neg a (hI1.cl.lit l (get_mem hl) y hy).1, hyt] at this
          cases this
        refine ⟨2, { S1 with nothing := true }, (spend m).1, 2, ?_, ⟨p, ?_, (fun h => by cases h), fun _ => hst⟩, by show S1.l.length + miss N S1.l ≤ B; rw [hlen1, hm1]; exact hsz, hext.vars, hext.added, .inr (.inr (.inl ⟨rfl, hno3⟩)), fun _ => by decide⟩
        · rw [run, if_neg (fun h => h hok), if_neg (by rw [hno]; decide), if_neg hsp, e1]
          dsimp only
          rw [if_neg (fun h => h hok1), if_pos hk0]
          unfold Sol.conflict
          rw [if_pos (by rw [hst]; rfl)]
          dsimp only
          rw [if_pos hcn, run, if_neg (fun h => h ⟨(let ⟨q, h5, h6⟩ := hok1.1; ⟨q, ⟨h5.i, h5.l, h5.w, h5.a, h5.t⟩, h6⟩), hok1.2⟩), if_pos rfl]
        · exact ⟨⟨⟨hI1.sh.five.i, hI1.sh.five.l, hI1.sh.five.w, hI1.sh.five.a, hI1.sh.five.t⟩, hI1.sh.pos, hI1.sh.small, hI1.sh.trv, hI1.sh.nodup, hI1.sh.isT, hI1.sh.isF, hI1.sh.last, hI1.sh.sorted, hI1.sh.stb, hI1.sh.lev, hI1.sh.next⟩, ⟨hI1.cl.two, hI1.cl.lit, hI1.cl.dist⟩, ⟨hI1.sem.cl, hI1.sem.zero, fun _ => hno3⟩, hI1.re, hI1.wat, hI1.good, hI1.st, hI1.ple⟩
      · have hz1 : zeros S1 = zeros S := by unfold zeros; rw [hext.starts, if_neg (hext.starts ▸ hst), if_neg (hext.starts ▸ hst)]
        have hmeas1 : meas N S1 = meas N S := by unfold meas; rw [hm1, hz1]
        obtain ⟨S2, mm, s, x, e2, hI2, hJ, hlt, hsz2, hF2⟩ := conflict_spec hI1 hC hN hst (by omega)
        -- the state's assumptions hold ahead of it as well
        have hS1 : SI Cs As n p S1 := hI.ext hext hI1
        have hS2 := hS1.jump hJ hI2
        have hdec : left_ As N S2 (c + 1) lim < μ := by
          refine Nat.lt_of_lt_of_le ?_ hμ
          unfold left_
          refine left_lt1 (by omega) (by split <;> omega) (by omega)
        obtain ⟨f, S', m', r, e4, hfd⟩ := ih _ hdec (spend m).1 S2 (c + 1) lim (Nat.le_refl _) hS2 (hJ.nothing.trans hno1) (hF2 hF1) (by omega) (by omega) (by omega) hl0 hlT
        refine ⟨f + 1, S', m', r, ?_, hfd.rest, hfd.size, hfd.varsE.trans (hJ.vars.trans hext.vars), hfd.addedE.trans (hJ.added.trans hext.added), hfd.res, fun hm => hfd.ok hm.spend.1⟩
        rw [run, if_neg (fun h => h hok), if_neg (by rw [hno]; decide), if_neg hsp, e1]
        dsimp only
        rw [if_neg (fun h => h hok1), if_pos hk0, e2]
        dsimp only
        rw [if_pos hcn]
        exact e4
end Go.Proofs.Ytckimhhncpnkpaa.Sat
/- Add and Solve. -/
namespace Go.Proofs.Ytckimhhncpnkpaa.Sat
set_option linter.unusedVariables false
open Go.Proofs.Ytckimhhncpnkpaa.Sep
theorem getD_app {α : Type} {l r : List α} {v : Nat} {d : α} (h : v < l.length) : (l ++ r).getD v d = l.getD v d := by
  rw [List.getD_eq_getElem?_getD, List.getD_eq_getElem?_getD, List.getElem?_append_left h]
theorem getD_rep {l : List Int} {k v : Nat} {d : Int} (h : l.length ≤ v) : (l ++ List.replicate k d).getD v d = d := by
  rw [List.getD_eq_getElem?_getD, List.getElem?_append_right h, List.getElem?_replicate]
  split <;> rfl
section
variable {S : Sol} {n p : Nat} {Cs : List (List Int)}
theorem Shape.grow (h : Shape S n) (k : Nat) (hk : n + k ≤ 1000000) : Shape (S.grow k) (n + k) := by
  have f := h.five
  refine ⟨⟨by simp [Sol.grow, f.i], by simp [Sol.grow, f.l], by simp [Sol.grow, f.w], by simp [Sol.grow, f.a], by simp [Sol.grow, f.t]⟩, by have := h.pos; omega, hk, fun x hx => ⟨(h.trv x hx).1, by have := (h.trv x hx).2; omega⟩, h.nodup, fun x hx => ?_, fun v hv hx => ?_, fun t ht => ?_, h.sorted, h.stb, fun i x hx => ?_, h.next⟩
  · show (S.is ++ List.replicate k 0).getD x.natAbs 0 = _
    rw [getD_app (by rw [f.i]; exact (h.trv x hx).2)]
    exact h.isT x hx
  · show (S.is ++ List.replicate k 0).getD v 0 = 0
    by_cases hvn : v < n
    · rw [getD_app (by rw [f.i]; exact hvn)]
      exact h.isF v hvn hx
    · exact getD_rep (by rw [f.i]; omega)
  · have ht' : t ∈ S.last ++ List.replicate k 0 := ht
    rcases List.mem_append.1 ht' with h1 | h1
    · exact h.last t h1
    · exact .inl (List.mem_replicate.1 h1).2
  · show (S.level ++ List.replicate k 0).getD x.natAbs 0 = _
    rw [getD_app (by rw [f.l]; exact (h.trv x (get_mem hx)).2)]
    exact h.lev i x hx
theorem Inv.grow (h : Inv Cs n p S) (k : Nat) (hk : n + k ≤ 1000000) : Inv Cs (n + k) p (S.grow k) := by
  refine ⟨h.sh.grow k hk, ⟨h.cl.two, fun l hl y hy => ⟨(h.cl.lit l hl y hy).1, by have := (h.cl.lit l hl y hy).2; omega⟩, h.cl.dist⟩, ⟨h.sem.cl, h.sem.zero, h.sem.no⟩, fun i x hx => ?_, h.wat, h.good, h.st, h.ple⟩
  have hx' : S.trail[i]? = some x := hx
  have e : (S.grow k).why.getD x.natAbs 0 = S.why.getD x.natAbs 0 := getD_app (by rw [h.sh.five.w]; exact (h.sh.trv x (get_mem hx')).2)
  have h1 := h.re i x hx'
  unfold Why at h1 ⊢
  rw [e]
  exact h1
end
def maxVar (l : List Int) (v : Int) : Int := l.foldl (fun v x => max v (x.natAbs : Int)) v
theorem maxVar_le : ∀ (l : List Int) (v : Int), v ≤ maxVar l v ∧ ∀ y ∈ l, (y.natAbs : Int) ≤ maxVar l v
  | [], v => ⟨Int.le_refl _, by simp⟩
  | x :: r, v => by
    obtain ⟨h1, h2⟩ := maxVar_le r (max v (x.natAbs : Int))
    have e : maxVar (x :: r) v = maxVar r (max v (x.natAbs : Int)) := rfl
    rw [e]
    refine ⟨by omega, fun y hy => ?_⟩
    rcases List.mem_cons.1 hy with rfl | hy
    · omega
    · exact h2 y hy
theorem maxVar_bound : ∀ (l : List Int) (v b : Int), v ≤ b → (∀ y ∈ l, (y.natAbs : Int) ≤ b) → maxVar l v ≤ b
  | [], v, b, h, _ => h
  | x :: r, v, b, h, hy => maxVar_bound r (max v (x.natAbs : Int)) b (by have := hy x List.mem_cons_self; omega) (fun y h1 => hy y (List.mem_cons_of_mem _ h1))
/-- A solver between calls. -/
structure Rest (Cs : List (List Int)) (n B N : Nat) (S : Sol) : Prop where
  inv : ∃ p, Inv Cs n p S ∧ (S.nothing = false → S.next = (p : Int) ∧ Full Cs S)
  st : S.starts = []
  size : S.l.length + miss N S.l ≤ B
  vars : S.vars = Cs.foldl (fun v c => maxVar c v) 0
  v0 : 0 ≤ S.vars
  vn : S.vars < n
  cv : ∀ c ∈ Cs, ∀ y ∈ c, (y.natAbs : Int) ≤ S.vars
  nN : n ≤ N
  added : S.added = Cs.length
theorem room_n {S : Sol} {n p : Nat} {Cs : List (List Int)} (h : Inv Cs n p S) {v : Int} {N : Nat} (hv : 0 ≤ v) (hN : n ≤ N) (hvN : v < N) (hN2 : N ≤ 1000000) : ∃ n', Inv Cs n' p (S.room v) ∧ n ≤ n' ∧ n' ≤ N ∧ v < n' := by
  refine ⟨n + ((v + 1).toNat - S.is.length), h.grow _ ?_, ?_⟩
  all_goals rw [h.sh.five.i]; omega
open Classical in
/-- Solve, of literals. -/
noncomputable def Sol.solve (S : Sol) (As : List Int) (seed : Int) (f : Nat) (m : Option Mtr) : Option (Sol × Option Mtr × List Bool × Int) :=
  match run As seed (maxVar As S.vars).toNat f m (S.room (maxVar As S.vars)) 0 60 with
  | none => none
  | some (S1, m1, r) => if (maxVar As S.vars).toNat < S1.is.length ∧ S1.mayBack 0 ∧ S1.starts.length ≤ 1000000000 ∧ S1.is.length ≤ 1000000000 then some (S1.back 0, m1, if r = 1 then (List.range (maxVar As S.vars).toNat).map (fun v => decide (S1.is.getD (v + 1) 0 = 1)) else [], r) else none
theorem tv_trail {S : Sol} {n : Nat} (h : Shape S n) {x : Int} (hx : x ∈ S.trail) : tv (fun v => decide (S.is.getD v 0 = 1)) x = true := by
  have := h.isT x hx
  unfold tv
  dsimp only
  rw [this]
  unfold sgn1
  by_cases hneg : x < 0
  · rw [if_pos hneg, if_pos hneg]; rfl
  · rw [if_neg hneg, if_neg hneg]; rfl
theorem trail_of {S : Sol} {n : Nat} (h : Shape S n) {y : Int} (hy : y.natAbs < n) (h0 : S.is.getD y.natAbs 0 ≠ 0) : y ∈ S.trail ∨ -y ∈ S.trail := by
  refine Classical.byContradiction (fun hno => h0 (h.isF y.natAbs hy (fun z hz e => hno ?_)))
  rcases Int.natAbs_eq_natAbs_iff.1 e with rfl | rfl
  · exact .inl hz
  · exact .inr hz
theorem solve_spec {Cs : List (List Int)} {n B N : Nat} {S : Sol} (h : Rest Cs n B N S) (hN : N ≤ 100000) (hB : B ≤ 1000000000) (hB2 : 3 ^ N + N ≤ 100000000000) (As : List Int) (hA : ∀ x ∈ As, x ≠ 0 ∧ x.natAbs < N) (hAl : As.length ≤ 100000) (seed : Int) (m : Option Mtr) :
    ∃ f S' m' out r n', S.solve As seed f m = some (S', m', out, r) ∧ Rest Cs n' B N S' ∧ (MOk m → r ≠ 3) ∧
      ((r = 1 ∧ ∃ a, fits Cs a ∧ (∀ x ∈ As, tv a x = true) ∧ out = (List.range (maxVar As S.vars).toNat).map (fun v => a (v + 1))) ∨
       (r = 2 ∧ out = [] ∧ ∀ a, fits Cs a → ∃ x ∈ As, tv a x = false) ∨ (r = 3 ∧ out = [] ∧ ∃ x, m' = some x ∧ x.over = true)) := by
  obtain ⟨p, hI, hlive⟩ := h.inv
  have hmv := maxVar_le As S.vars
  have hv0 := h.v0
  have hvn := h.vn
  have hnN := h.nN
  have hvN : maxVar As S.vars < N := by
    have := maxVar_bound As S.vars (N - 1) (by omega) (fun y hy => by have := (hA y hy).2; omega)
    omega
  obtain ⟨n', hI', hn1, hn2, hn3⟩ := room_n hI (v := maxVar As S.vars) (by omega) hnN hvN (by omega)
  have hst' : (S.room (maxVar As S.vars)).starts = [] := h.st
  have hAn : ∀ x ∈ As, x ≠ 0 ∧ x.natAbs < n' := fun x hx => ⟨(hA x hx).1, by have := hmv.2 x hx; omega⟩
  have hsz : (S.room (maxVar As S.vars)).l.length + miss N (S.room (maxVar As S.vars)).l ≤ B := h.size
  unfold Sol.solve
  by_cases hno : S.nothing = true
  · -- nothing fits
    have hno' : (S.room (maxVar As S.vars)).nothing = true := hno
    have hok : Ok (S.room (maxVar As S.vars)) := hI'.ok (by rw [hst']; exact Nat.zero_le _) (by omega)
    have es : run As seed (maxVar As S.vars).toNat 1 m (S.room (maxVar As S.vars)) 0 60 = some (S.room (maxVar As S.vars), m, 2) := by rw [run, if_neg (fun h => h hok), if_pos hno']
    have eb : (S.room (maxVar As S.vars)).back 0 = S.room (maxVar As S.vars) := by unfold Sol.back; rw [if_pos (by rw [hst']; exact Nat.le_refl _)]
    refine ⟨1, S.room (maxVar As S.vars), m, [], 2, n', by rw [es]; dsimp only; rw [if_pos ⟨by rw [hI'.sh.five.i]; omega, hI'.sh.mayBack 0, by rw [hst']; exact Nat.zero_le _, by have := hI'.sh.small; rw [hI'.sh.five.i]; omega⟩, eb]; rfl, ⟨⟨p, hI', fun h2 => absurd h2 (by rw [hno']; decide)⟩, hst', hsz, h.vars, h.v0, by show S.vars < n'; omega, h.cv, hn2, h.added⟩, fun _ => by decide, .inr (.inl ⟨rfl, rfl, fun a ha => absurd ha (hI.sem.no hno a)⟩)⟩
  · have hno' : S.nothing = false := Bool.eq_false_iff.2 hno
    obtain ⟨hnx, hF⟩ := hlive hno'
    have hpn : (S.room (maxVar As S.vars)).next.toNat = p := by show S.next.toNat = p; omega
    have hSI : SI Cs As n' (S.room (maxVar As S.vars)).next.toNat (S.room (maxVar As S.vars)) := by
      refine ⟨by rw [hpn]; exact hI', fun i x _ hlt => ?_, fun i x _ _ h1 _ => ?_, fun j s hj => ?_, ?_⟩
      · rw [hst'] at hlt; simp at hlt
      · rw [hst'] at h1; simp [lvAt] at h1
      · rw [hst'] at hj; simp at hj
      · rw [hst']; simp
    have hmm : meas N (S.room (maxVar As S.vars)) ≤ 3 ^ N + N := by
      unfold meas
      have := miss_le N (S.room (maxVar As S.vars)).l
      omega
    obtain ⟨f, S1, m1, r, es, hfd⟩ := search_spec (seed := seed) (vars := (maxVar As S.vars).toNat) (T := 3 ^ N + N) hn2 (by omega) hB hB2 hAn (by omega) _ m (S.room (maxVar As S.vars)) 0 60 (Nat.le_refl _) hSI hno' (show Full Cs (S.room _) from hF) hsz (Int.le_refl _) (by omega) (by omega) (by omega)
    obtain ⟨q, hI1, hl1, hn1'⟩ := hfd.rest
    have hv1 : S1.vars = S.vars := hfd.varsE
    -- back to the lowest level
    have hrest : Rest Cs n' B N (S1.back 0) := by
      by_cases hno1 : S1.nothing = true
      · have hst1 := hn1' hno1
        have eb : S1.back 0 = S1 := by unfold Sol.back; rw [if_pos (by rw [hst1]; exact Nat.le_refl _)]
        rw [eb]
        exact ⟨⟨q, hI1, fun h2 => absurd h2 (by rw [hno1]; decide)⟩, hst1, hfd.size, by rw [hv1]; exact h.vars, by rw [hv1]; exact h.v0, by rw [hv1]; omega, by rw [hv1]; exact h.cv, hn2, by rw [hfd.addedE]; exact h.added⟩
      · obtain ⟨a1, a2, a3⟩ := hl1 (Bool.eq_false_iff.2 hno1)
        have hq : S1.next.toNat = q := by omega
        obtain ⟨b1, b2, b3, b4, b5, b6, b7, _, _⟩ := (show SI Cs As n' S1.next.toNat S1 by rw [hq]; exact a3).back
        have hnn := b1.inv.sh.next
        exact ⟨⟨_, b1.inv, fun _ => ⟨by omega, b7 a2⟩⟩, b2, by rw [b3]; exact hfd.size, by rw [b4, hv1]; exact h.vars, by rw [b4, hv1]; exact h.v0, by rw [b4, hv1]; omega, by rw [b4, hv1]; exact h.cv, hn2, by rw [b5, hfd.addedE]; exact h.added⟩
    have hs1 : S1.starts.length ≤ 1000000000 := by
      by_cases hno1 : S1.nothing = true
      · rw [hn1' hno1]; exact Nat.zero_le _
      · obtain ⟨_, _, a3⟩ := hl1 (Bool.eq_false_iff.2 hno1)
        have := a3.num2
        have := hI1.sh.len
        have := hI1.sh.small
        omega
    refine ⟨f, S1.back 0, m1, _, r, n', by rw [es]; dsimp only; rw [if_pos ⟨by rw [hI1.sh.five.i]; omega, hI1.sh.mayBack 0, hs1, by have := hI1.sh.small; rw [hI1.sh.five.i]; omega⟩], hrest, hfd.ok, ?_⟩
    rcases hfd.res with ⟨rfl, h1, h2, h3, h4⟩ | ⟨rfl, h1⟩ | ⟨rfl, h1⟩ | ⟨rfl, h1⟩
    · -- the truths fit
      obtain ⟨a1, a2, a3⟩ := hl1 h1
      refine .inl ⟨rfl, fun v => decide (S1.is.getD v 0 = 1), ?_, fun x hx => tv_trail hI1.sh (h3 x hx), by rw [if_pos rfl]⟩
      refine a2 _ (fun l hl hvl => ?_) (fun i x hx _ => tv_trail hI1.sh (get_mem hx))
      have hl2 := hI1.cl.two l hl
      have on : ∀ w ∈ l, w ∈ S1.trail ∨ -w ∈ S1.trail := fun w hw => by
        obtain ⟨w0, wn⟩ := hI1.cl.lit l hl w hw
        have := hvl w hw
        rw [hv1] at this
        exact trail_of hI1.sh wn (h2 _ (by omega) (by omega))
      have m0 := getD_mem (l := l) (i := 0) (by omega)
      have m1' := getD_mem (l := l) (i := 1) (by omega)
      rcases on _ m0 with h5 | h5
      · exact ⟨_, m0, tv_trail hI1.sh h5⟩
      · obtain ⟨i, hi⟩ := List.mem_iff_getElem?.1 h5
        obtain ⟨j, hj, _⟩ := (hI1.good l hl).1 i (by have := get_lt hi; omega) hi
        exact ⟨_, m1', tv_trail hI1.sh (get_mem hj)⟩
    · exact .inr (.inl ⟨rfl, if_neg (by decide), h1⟩)
    · exact .inr (.inl ⟨rfl, if_neg (by decide), fun a ha => absurd ha (h1 a)⟩)
    · exact .inr (.inr ⟨rfl, if_neg (by decide), h1⟩)
/-! ### Add -/
/-- Add, of literals, sorted, each once, with room made. -/
def Sol.addTo (S : Sol) (l : List Int) : Sol :=
  if l.any (fun x => l.contains (-x) || S.truth x == some 1) = true then S else
  match l.filter (fun x => !(S.truth x == some (-1))) with
  | [] => { S with nothing := true }
  | [x] => S.put x (-1)
  | x :: y :: r => S.keep (x :: y :: r)
def Sol.more (S : Sol) (l : List Int) : Sol := { S with added := S.added + 1, vars := maxVar l S.vars }
theorem fits_snoc {Cs : List (List Int)} {l : List Int} {a : Nat → Bool} : fits (Cs ++ [l]) a ↔ fits Cs a ∧ csat a l := by
  constructor
  · exact fun h => ⟨fun c hc => h c (List.mem_append.2 (.inl hc)), h l (List.mem_append.2 (.inr (List.mem_singleton.2 rfl)))⟩
  · rintro ⟨h1, h2⟩ c hc
    rcases List.mem_append.1 hc with h3 | h3
    · exact h1 c h3
    · rw [List.mem_singleton.1 h3]; exact h2
theorem Inv.more {Cs : List (List Int)} {n p : Nat} {S : Sol} (h : Inv Cs n p S) (l : List Int) : Inv (Cs ++ [l]) n p S :=
  ⟨h.sh, h.cl, ⟨fun m hm a ha => h.sem.cl m hm a (fits_snoc.1 ha).1, fun i x hx hl a ha => h.sem.zero i x hx hl a (fits_snoc.1 ha).1, fun hn a ha => h.sem.no hn a (fits_snoc.1 ha).1⟩, h.re, h.wat, h.good, h.st, h.ple⟩
theorem add_spec {Cs : List (List Int)} {n B N : Nat} {S : Sol} (h : Rest Cs n B N S) (hN : N ≤ 100000) (l l2 : List Int) (hl : ∀ x ∈ l, x ≠ 0 ∧ x.natAbs < N) (hm : ∀ y, y ∈ l2 ↔ y ∈ l) (hd : l2.Nodup) :
    ∃ n', Rest (Cs ++ [l]) n' (B + 1) N (((S.more l).room (maxVar l S.vars)).addTo l2) ∧ Shape ((S.more l).room (maxVar l S.vars)) n' ∧ (∀ x ∈ l, x.natAbs < n') ∧ (B ≤ 1000000000 → ((S.more l).room (maxVar l S.vars)).mayKeep) := by
  obtain ⟨p, hI, hlive⟩ := h.inv
  have hmv := maxVar_le l S.vars
  have hv0 := h.v0
  have hvn := h.vn
  have hnN := h.nN
  have hvN : maxVar l S.vars < N := by
    have := maxVar_bound l S.vars (N - 1) (by omega) (fun y hy => by have := (hl y hy).2; omega)
    omega
  have hI0 : Inv Cs n p (S.more l) := ⟨⟨⟨hI.sh.five.i, hI.sh.five.l, hI.sh.five.w, hI.sh.five.a, hI.sh.five.t⟩, hI.sh.pos, hI.sh.small, hI.sh.trv, hI.sh.nodup, hI.sh.isT, hI.sh.isF, hI.sh.last, hI.sh.sorted, hI.sh.stb, hI.sh.lev, hI.sh.next⟩, ⟨hI.cl.two, hI.cl.lit, hI.cl.dist⟩, ⟨hI.sem.cl, hI.sem.zero, hI.sem.no⟩, hI.re, hI.wat, hI.good, hI.st, hI.ple⟩
  obtain ⟨n', hI1, hn1, hn2, hn3⟩ := room_n hI0 (v := maxVar l S.vars) (by omega) hnN hvN (by omega)
  have hln : ∀ x ∈ l, x ≠ 0 ∧ x.natAbs < n' := fun x hx => ⟨(hl x hx).1, by have := hmv.2 x hx; omega⟩
  generalize hR : (S.more l).room (maxVar l S.vars) = R at hI1
  have rl : R.l = S.l := by rw [← hR]; rfl
  have rv : R.vars = maxVar l S.vars := by rw [← hR]; rfl
  have ra : R.added = S.added + 1 := by rw [← hR]; rfl
  have rs : R.starts = [] := by rw [← hR]; exact h.st
  have rn : R.nothing = S.nothing := by rw [← hR]; rfl
  have rx : R.next = S.next := by rw [← hR]; rfl
  have rt : R.trail = S.trail := by rw [← hR]; rfl
  have hcv : ∀ c ∈ Cs ++ [l], ∀ y ∈ c, (y.natAbs : Int) ≤ R.vars := fun c hc y hy => by
    rw [rv]
    rcases List.mem_append.1 hc with h1 | h1
    · have := h.cv c h1 y hy; omega
    · rw [List.mem_singleton.1 h1] at hy; exact hmv.2 y hy
  have hvars : R.vars = (Cs ++ [l]).foldl (fun v c => maxVar c v) 0 := by rw [rv, List.foldl_append, ← h.vars]; rfl
  have hadd : R.added = ((Cs ++ [l]).length : Nat) := by rw [ra, h.added, List.length_append]; simp
  -- whoever fits the elder clauses still follows from the elder state
  have hFull : S.nothing = false → ∀ a, (∀ m ∈ R.l, (∀ y ∈ m, (y.natAbs : Int) ≤ R.vars) → csat a m) → (∀ i x, R.trail[i]? = some x → lvAt R.starts i = 0 → tv a x = true) → fits Cs a := fun hn a h1 h2 => (hlive hn).2 a (fun m hm hv => h1 m (by rw [rl]; exact hm) (fun y hy => by have := hv y hy; rw [rv]; omega)) (fun i x hx hlv => h2 i x (by rw [rt]; exact hx) (by rw [rs]; rfl))
  have hzero : ∀ a, fits Cs a → ∀ x ∈ R.trail, tv a x = true := fun a ha x hx => by
    obtain ⟨i, hi⟩ := List.mem_iff_getElem?.1 hx
    exact hI1.sem.zero i x hi (by rw [rs]; rfl) a ha
  have htr : ∀ x ∈ l2, ∃ t, R.truth x = some t ∧ ((t = 1 ∧ x ∈ R.trail) ∨ (t = -1 ∧ -x ∈ R.trail) ∨ (t = 0 ∧ x ∉ R.trail ∧ -x ∉ R.trail)) := fun x hx => hI1.sh.truth (hln x ((hm x).1 hx)).1 (hln x ((hm x).1 hx)).2
  have hmk : B ≤ 1000000000 → R.mayKeep := fun hB => by
    have hs := h.size
    refine ⟨by rw [rl]; omega, fun z => ?_⟩
    have := hI1.wat.len z
    rw [rl] at this
    omega
  refine ⟨n', ?_, hI1.sh, fun x hx => (hln x hx).2, hmk⟩
  have hIm := hI1.more l
  unfold Sol.addTo
  by_cases hany : l2.any (fun x => l2.contains (-x) || R.truth x == some 1) = true
  · -- it is fitted by all that fit the others
    rw [if_pos hany]
    have hall : ∀ a, fits Cs a → csat a l := fun a ha => by
      obtain ⟨x, hx, hc⟩ := List.any_eq_true.1 hany
      rw [Bool.or_eq_true] at hc
      rcases hc with hc | hc
      · have hnx : -x ∈ l2 := List.contains_iff_mem.1 hc
        have hx0 := (hln x ((hm x).1 hx)).1
        rcases Bool.eq_false_or_eq_true (tv a x) with e | e
        · exact ⟨x, (hm x).1 hx, e⟩
        · exact ⟨-x, (hm _).1 hnx, by rw [tv_neg a hx0, e]; rfl⟩
      · obtain ⟨t, ht, hcs⟩ := htr x hx
        rw [ht] at hc
        have ht1 : t = 1 := by simpa using hc
        rcases hcs with ⟨_, e⟩ | ⟨e, _⟩ | ⟨e, _⟩
        · exact ⟨x, (hm x).1 hx, hzero a ha x e⟩
        · omega
        · omega
    refine ⟨⟨p, hIm, fun hn => ⟨by rw [rx]; exact (hlive (rn ▸ hn)).1, fun a h1 h2 => fits_snoc.2 ?_⟩⟩, rs, by rw [rl]; have := h.size; omega, hvars, by rw [rv]; omega, by rw [rv]; exact hn3, hcv, hn2, hadd⟩
    have := hFull (rn ▸ hn) a h1 h2
    exact ⟨this, hall a this⟩
  · rw [if_neg hany]
    -- what is left has no truth yet
    have hleft : ∀ x, x ∈ l2.filter (fun x => !(R.truth x == some (-1))) ↔ x ∈ l2 ∧ -x ∉ R.trail := fun x => by
      rw [List.mem_filter]
      refine and_congr_right (fun hx => ?_)
      obtain ⟨t, ht, hcs⟩ := htr x hx
      rw [ht]
      have e : (!(some t == some (-1))) = true ↔ t ≠ -1 := by simp
      rw [e]
      rcases hcs with ⟨h1, h2⟩ | ⟨h1, h2⟩ | ⟨h1, h2, h3⟩
      · exact ⟨fun _ hn => hI1.sh.not_both h2 hn, fun _ => by omega⟩
      · exact ⟨fun h3 => absurd h1 h3, fun h3 => absurd h2 h3⟩
      · exact ⟨fun _ => h3, fun _ => by omega⟩
    have hany' : ∀ x ∈ l2, -x ∉ l2 ∧ x ∉ R.trail := fun x hx => by
      have h1 : ¬ ((l2.contains (-x) || R.truth x == some 1) = true) := fun h1 => hany (List.any_eq_true.2 ⟨x, hx, h1⟩)
      rw [Bool.or_eq_true, not_or] at h1
      refine ⟨fun h2 => h1.1 (List.contains_iff_mem.2 h2), fun h2 => ?_⟩
      obtain ⟨t, ht, hcs⟩ := htr x hx
      rw [ht] at h1
      rcases hcs with ⟨e, _⟩ | ⟨_, e⟩ | ⟨_, e, _⟩
      · exact h1.2 (by rw [e]; rfl)
      · exact hI1.sh.not_both h2 e
      · exact e h2
    have hnd : (l2.filter (fun x => !(R.truth x == some (-1)))).Nodup := hd.filter _
    -- where the others fit, this clause is what is left of it
    have hsame : ∀ a, fits Cs a → (csat a l ↔ csat a (l2.filter (fun x => !(R.truth x == some (-1))))) := fun a ha => by
      constructor
      · rintro ⟨y, hy, hyt⟩
        have hy2 := (hm y).2 hy
        refine ⟨y, (hleft y).2 ⟨hy2, fun hn => ?_⟩, hyt⟩
        have := hzero a ha _ hn
        rw [tv_neg a (hln y hy).1, hyt] at this
        cases this
      · rintro ⟨y, hy, hyt⟩
        exact ⟨y, (hm y).1 ((hleft y).1 hy).1, hyt⟩
    generalize hL : l2.filter (fun x => !(R.truth x == some (-1))) = L at *
    have hLl : ∀ x ∈ L, x ≠ 0 ∧ x.natAbs < n' ∧ x ∉ R.trail ∧ -x ∉ R.trail ∧ -x ∉ L ∧ (x.natAbs : Int) ≤ R.vars := fun x hx => by
      obtain ⟨h1, h2⟩ := (hleft x).1 hx
      obtain ⟨h3, h4⟩ := hany' x h1
      obtain ⟨h5, h6⟩ := hln x ((hm x).1 h1)
      exact ⟨h5, h6, h4, h2, fun h7 => h3 ((hleft _).1 h7).1, by rw [rv]; exact hmv.2 x ((hm x).1 h1)⟩
    have hsz := h.size
    match L, hL with
    | [], _ =>
      dsimp only
      have hno : ∀ a, ¬ fits (Cs ++ [l]) a := fun a ha => by
        obtain ⟨h1, h2⟩ := fits_snoc.1 ha
        obtain ⟨y, hy, _⟩ := (hsame a h1).1 h2
        simp at hy
      refine ⟨⟨p, ?_, fun hn => by cases hn⟩, rs, by show R.l.length + miss N R.l ≤ _; rw [rl]; omega, hvars, by show 0 ≤ R.vars; rw [rv]; omega, by show R.vars < n'; rw [rv]; exact hn3, hcv, hn2, hadd⟩
      exact ⟨⟨⟨hIm.sh.five.i, hIm.sh.five.l, hIm.sh.five.w, hIm.sh.five.a, hIm.sh.five.t⟩, hIm.sh.pos, hIm.sh.small, hIm.sh.trv, hIm.sh.nodup, hIm.sh.isT, hIm.sh.isF, hIm.sh.last, hIm.sh.sorted, hIm.sh.stb, hIm.sh.lev, hIm.sh.next⟩, ⟨hIm.cl.two, hIm.cl.lit, hIm.cl.dist⟩, ⟨hIm.sem.cl, hIm.sem.zero, fun _ => hno⟩, hIm.re, hIm.wat, hIm.good, hIm.st, hIm.ple⟩
    | [x], _ =>
      dsimp only
      obtain ⟨x0, xn, x1, x2, _⟩ := hLl x List.mem_cons_self
      have hent : ∀ a, fits (Cs ++ [l]) a → tv a x = true := fun a ha => by
        obtain ⟨h1, h2⟩ := fits_snoc.1 ha
        obtain ⟨y, hy, hyt⟩ := (hsame a h1).1 h2
        rw [List.mem_singleton.1 hy] at hyt
        exact hyt
      refine ⟨⟨p, ⟨hIm.sh.put x0 xn x1 x2, ⟨hIm.cl.two, hIm.cl.lit, hIm.cl.dist⟩, hIm.sem.put hIm.sh (fun _ => hent), hIm.re.put hIm.sh x0 xn x1 x2 ?_, hIm.wat, fun m hm => (hIm.good m hm).put hIm.ple, hIm.st, ?_⟩, fun hn => ⟨?_, fun a h1 h2 => fits_snoc.2 ?_⟩⟩, rs, by show R.l.length + miss N R.l ≤ _; rw [rl]; omega, hvars, by show 0 ≤ R.vars; rw [rv]; omega, by show R.vars < n'; rw [rv]; exact hn3, hcv, hn2, hadd⟩
      · unfold Why
        rw [put_why (by rw [hIm.sh.five.w]; exact xn)]
        exact .inl ⟨rfl, .inl (by show lvAt R.starts _ = 0; rw [rs]; rfl)⟩
      · show p ≤ (R.trail ++ [x]).length
        have := hIm.ple
        rw [List.length_append]; omega
      · show R.next = _
        rw [rx]; exact (hlive (rn ▸ hn)).1
      · have h3 := hFull (rn ▸ hn) a h1 (fun i z hz hlv => h2 i z (by rw [put_trail_lt (get_lt hz)]; exact hz) hlv)
        refine ⟨h3, (hsame a h3).2 ⟨x, List.mem_cons_self, h2 R.trail.length x put_trail_len ?_⟩⟩
        show lvAt R.starts _ = 0
        rw [rs]; rfl
    | x :: y :: r, _ =>
      dsimp only
      have hl2 : 2 ≤ (x :: y :: r).length := by simp
      have hdist : ((x :: y :: r).map Int.natAbs).Nodup := by
        refine List.pairwise_map.2 (hnd.imp_of_mem (fun {a b} ha hb hab e => ?_))
        rcases Int.natAbs_eq_natAbs_iff.1 e with rfl | rfl
        · exact hab rfl
        · exact (hLl b hb).2.2.2.2.1 ha
      have hd01 : (x :: y :: r).getD 0 0 ≠ (x :: y :: r).getD 1 0 := fun e => by
        have := dist_get hdist (i := 0) (j := 1) (by simp) (by simp) e
        omega
      have hent : ∀ a, fits (Cs ++ [l]) a → csat a (x :: y :: r) := fun a ha => by
        obtain ⟨h1, h2⟩ := fits_snoc.1 ha
        exact (hsame a h1).1 h2
      have hms := miss_snoc_le N R.l (x :: y :: r)
      refine ⟨⟨p, ⟨hIm.sh.keep _, hIm.cl.keep hl2 (fun z hz => ⟨(hLl z hz).1, (hLl z hz).2.1⟩) hdist, hIm.sem.keep hent, hIm.re.keep, hIm.wat.keep hl2 hd01, fun m hm => ?_, hIm.st, hIm.ple⟩, fun hn => ⟨?_, fun a h1 h2 => fits_snoc.2 ?_⟩⟩, rs, ?_, hvars, by show 0 ≤ R.vars; rw [rv]; omega, by show R.vars < n'; rw [rv]; exact hn3, hcv, hn2, hadd⟩
      · have hm' : m ∈ R.l ++ [x :: y :: r] := hm
        rcases List.mem_append.1 hm' with h3 | h3
        · exact hIm.good m h3
        · rw [List.mem_singleton.1 h3]
          exact ⟨fun i _ hx => absurd (get_mem hx) (hLl x (by simp)).2.2.2.1, fun i _ hx => absurd (get_mem hx) (hLl y (by simp)).2.2.2.1⟩
      · show R.next = _
        rw [rx]; exact (hlive (rn ▸ hn)).1
      · have h3 := hFull (rn ▸ hn) a (fun m hm => h1 m (List.mem_append.2 (.inl hm))) h2
        exact ⟨h3, (hsame a h3).2 (h1 _ (List.mem_append.2 (.inr (List.mem_singleton.2 rfl))) (fun z hz => (hLl z hz).2.2.2.2.2))⟩
      · show (R.l ++ [x :: y :: r]).length + miss N (R.l ++ [x :: y :: r]) ≤ B + 1
        rw [rl] at hms
        rw [rl, List.length_append, List.length_singleton]
        omega
end Go.Proofs.Ytckimhhncpnkpaa.Sat
/- search. -/
namespace Go.Proofs.Ytckimhhncpnkpaa.H
set_option linter.unusedSimpArgs false
set_option linter.unusedVariables false
open Go.RowKit Go.Proofs.YtckimhhncpnkpaaW.PrintWords Go.Proofs.YtckimhhncpnkpaaW.PrintLast Go.Proofs.YtckimhhncpnkpaaW.PrintMore Go.Proofs.Ytckimhhncpnkpaa.Sep Go.Proofs.Ytckimhhncpnkpaa.Sat
theorem tdiv2 {x : Int} (h : 0 ≤ x) : x.tdiv 2 = x / 2 := Int.tdiv_eq_ediv_of_nonneg h
theorem back_len (S : Sol) (n : Nat) : (S.back n).is.length = S.is.length ∧ (S.back n).act.length = S.act.length ∧ (S.back n).last.length = S.last.length := by
  unfold Sol.back
  split
  · exact ⟨rfl, rfl, rfl⟩
  · obtain ⟨h1, h2, h3, h4⟩ := unset_same (S.trail.drop (S.starts.getD n 0).toNat) S
    have e : ((S.trail.drop (S.starts.getD n 0).toNat).foldl Sol.unset S).act = S.act := by rw [h1]
    exact ⟨h2, congrArg List.length e, h4⟩
open Classical in
set_option maxHeartbeats 8000000 in
set_option maxRecDepth 100000 in
theorem q_search {w : World} {b : Nat} {S S' : Sol} {f : Nat} {r : Int} {As : List Int} {seed : Int} {vars : Nat} {m m' : Option Mtr} {pm : Value} {Mt : Option Mtr → Ch} {A : Option Addr} {cA : Nat} {C : Ch} (hC : Lets C A As)
    (HS : Aside0 (∀ (w : World) (m : Option Mtr), Does Try.prog 43 #[pm, .int .i64 1] w [Mt m] fun e L => e = .returned (.bool (spend m).2) ∧ L = [Mt (spend m).1]))
    (h : run As seed vars f m S 0 60 = some (S', m', r)) (hv : vars ≤ 1000000000) (hA : As.length ≤ 1000000000) :
    Does Try.prog 28 #[.pointer (some ⟨b, 0, none⟩), .slice A As.length cA, .int .i64 seed, .int .i64 (vars : Int), pm] w [Mt m, sol b S, C] fun e L => e = .returned (.int .i64 r) ∧ L = [Mt m', sol b S', C] := by
  have mixed : Try.prog.follows Departure.mixedOrders = true := by kernel_rfl
  refine does_intro fun U hs => ?_
  have H0 := Aside0.mk hs
  have HC := Aside0.mk hC
  have HF := Aside0.mk h
  have HV := Aside0.mk hv
  have HAL := Aside0.mk hA
  clear hs h hv hA hC
  go_enter Try.func28, Try.ntmps28
  go_wp2_with fail
  go_loopg [11, 12] (f + 1) (fun kq v11 v12 wr => ∃ (f1 : Nat) (m1 : Option Mtr) (S1 : Sol) (c lim : Int), v11 = .int .i64 c ∧ v12 = .int .i64 lim ∧ Aside0 (f1 < kq) ∧ Aside0 (run As seed vars f1 m1 S1 c lim = some (S', m', r)) ∧ Aside0 (St w U wr [Mt m1, sol b S1, C]))
  case atStart => exact ⟨f, m, S, 0, 60, rfl, rfl, ⟨by omega⟩, HF, H0⟩
  case round =>
    clear H0 HF
    obtain ⟨f1, m1, S1, c, lim, rfl, rfl, HQ, HF, H0⟩ := hrel
    have h := HF.out
    cases f1 with
    | zero => rw [run] at h; cases h
    | succ f1 =>
    cases gk with
    | zero => exact absurd HQ.out (by omega)
    | succ k1 =>
    rw [run] at h
    by_cases hok : Ok S1
    case neg => rw [if_pos hok] at h; cases h
    rw [if_neg (fun h => h hok)] at h
    obtain ⟨r, h2⟩ := st_open (H0.out.perm (perm_idx [1, 0, 2] (by rfl) rfl))
    obtain ⟨A0, c0, gw, A3, c3, A4, c4, A5, c5, A6, c6, A7, c7, A9, c9, A10, c10⟩ := r
    have cS := h2.cell (i := 0) rfl
    dsimp only [cells] at cS
    clear h2
    by_cases hno : S1.nothing = true
    case pos =>
      rw [if_pos hno] at h
      have h7 := Option.some.inj h
      simp only [Prod.mk.injEq] at h7
      obtain ⟨rfl, rfl, rfl⟩ := h7
      rw [hno] at cS
      clear h hok hno
      go_wp2_with fail
      go_ret
      exact ⟨_, ⟨rfl, rfl⟩, H0.out⟩
    rw [if_neg hno] at h
    rw [Bool.eq_false_iff.2 hno] at cS
    by_cases hsp : (spend m1).2 = false
    case pos =>
      rw [if_pos hsp] at h
      have h7 := Option.some.inj h
      simp only [Prod.mk.injEq] at h7
      obtain ⟨rfl, rfl, rfl⟩ := h7
      have HSP := Aside0.mk hsp
      clear h hok hno hsp
      go_wp2_with (first
        | (go_at_call 43; (refine (St.does (L1 := [Mt m1]) (L2 := [sol b S1, C]) H0.out (HS.out _ _)).mono ?_); rintro e w1_ ⟨L1', ⟨rfl, rfl⟩, H1⟩; clear H0 cS; have H0 := Aside0.mk (show St w U w1_ [Mt (spend m1).1, sol b S1, C] from H1); clear H1; rw [HSP.out]))
      go_ret
      exact ⟨_, ⟨rfl, rfl⟩, H0.out⟩
    rw [if_neg hsp] at h
    have HSP := Aside0.mk (show (spend m1).2 = true by cases hq : (spend m1).2 with
      | false => exact absurd hq hsp
      | true => rfl)
    obtain ⟨S2, k, hfo⟩ : ∃ S2 k, S1.follow (S1.is.length + 1) = some (S2, k) := by
      match hq : S1.follow (S1.is.length + 1) with
      | none => rw [hq] at h; cases h
      | some (a1, a2) => exact ⟨a1, a2, rfl⟩
    rw [hfo] at h
    dsimp only at h
    by_cases hok2 : Ok S2
    case neg => rw [if_pos hok2] at h; cases h
    rw [if_neg (fun h => h hok2)] at h
    have HFO := Aside0.mk hfo
    have HBD := Aside0.mk (show Bd S1 from ⟨by obtain ⟨⟨q, h5, h6⟩, _⟩ := hok; rw [h5.i]; omega, hok.2.1⟩)
    obtain ⟨nn, hnn⟩ := hok2.1
    have HOK := Aside0.mk (show (Five S2 nn ∧ nn ≤ 1000000000) ∧ (∀ x ∈ S2.trail, x.natAbs ≤ 1000000000) ∧ S2.trail.length ≤ 1000000000 ∧ S2.starts.length ≤ 1000000000 ∧ S2.l.length ≤ 1000000000 from ⟨⟨hnn.1, by omega⟩, hok2.2⟩)
    by_cases hk : 0 ≤ k
    case pos =>
      rw [if_pos hk] at h
      obtain ⟨S3, hco⟩ : ∃ S3, S2.conflict k = some S3 := by
        match hq : S2.conflict k with
        | none => rw [hq] at h; cases h
        | some a1 => exact ⟨a1, rfl⟩
      rw [hco] at h
      dsimp only at h
      by_cases hcb : 0 ≤ c ∧ c ≤ 1000000000000
      case neg => rw [if_neg hcb] at h; cases h
      rw [if_pos hcb] at h
      have HCO := Aside0.mk hco
      have HR := Aside0.mk h
      have d1 : decide (k ≥ 0) = true := decide_eq_true hk
      have d2 : decide (0 ≤ k) = true := decide_eq_true hk
      have d3 : wrap64 (c + 1) = c + 1 := by unfold wrap64; omega
      clear h hok hno hsp hok2 hnn hfo hk hco hcb
      go_wp2_with (first
        | (go_at_call 43; (refine (St.does (L1 := [Mt m1]) (L2 := [sol b S1, C]) H0.out (HS.out _ _)).mono ?_); rintro e w1_ ⟨L1', ⟨rfl, rfl⟩, H1⟩; clear H0 cS; have H0 := Aside0.mk (show St w U w1_ [Mt (spend m1).1, sol b S1, C] from H1); clear H1; rw [HSP.out])
        | (go_at_call 44; (refine (St.does (L1 := [sol b S1]) (L2 := [Mt (spend m1).1, C]) (H0.out.perm (perm_idx [1, 0, 2] (by rfl) rfl)) (q_follow HFO.out HBD.out)).mono ?_); rintro e w2_ ⟨L1', ⟨rfl, rfl⟩, H1⟩; clear H0; have H0 := Aside0.mk (show St w U w2_ [Mt (spend m1).1, sol b S2, C] from H1.perm (perm_idx [1, 0, 2] (by rfl) rfl)); clear H1)
        | (go_at_call 45; (refine (St.does (L1 := [sol b S2]) (L2 := [Mt (spend m1).1, C]) (H0.out.perm (perm_idx [1, 0, 2] (by rfl) rfl)) (q_conflict HCO.out HOK.out.1.1 HOK.out.1.2 HOK.out.2.2.1 HOK.out.2.2.2.1 HOK.out.2.2.2.2)).mono ?_); rintro e w3_ ⟨L1', ⟨rfl, rfl⟩, H1⟩; clear H0; have H0 := Aside0.mk (show St w U w3_ [Mt (spend m1).1, sol b S3, C] from H1.perm (perm_idx [1, 0, 2] (by rfl) rfl)); clear H1))
      go_roundg k1
      case measure => have := HQ.out; omega
      case rel => exact ⟨f1, _, S3, c + 1, lim, by go_num, rfl, ⟨Nat.lt_of_succ_lt_succ HQ.out⟩, HR, H0⟩
    case neg =>
      rw [if_neg hk] at h
      have d1 : decide (k ≥ 0) = false := decide_eq_false hk
      have d2 : decide (0 ≤ k) = false := decide_eq_false hk
      by_cases hcb : lim < c ∧ ¬ (S2.mayBack 0 ∧ 0 ≤ lim ∧ lim ≤ 1000000000000)
      · rw [if_pos hcb] at h; cases h
      rw [if_neg hcb] at h
      by_cases hlc : lim < c
      case' pos =>
        simp only [if_pos hlc] at h
        have HMB := Aside0.mk (show S2.mayBack 0 ∧ 0 ≤ lim ∧ lim ≤ 1000000000000 from Classical.byContradiction fun hx => hcb ⟨hlc, hx⟩)
        have HT2 := Aside0.mk (tdiv2 (x := lim) HMB.out.2.1)
        have d3 : decide (lim < c) = true := decide_eq_true hlc
        have d4 : lim.tdiv 2 = lim / 2 := HT2.out
        have d5 : wrap64 (lim / 2) = lim / 2 := by have := HMB.out; unfold wrap64; omega
        have d6 : wrap64 (lim + lim / 2) = lim + lim / 2 := by have := HMB.out; unfold wrap64; omega
        obtain ⟨S3, hS3⟩ : ∃ S3, S2.back 0 = S3 := ⟨_, rfl⟩
        rw [hS3] at h
        have HS3 := Aside0.mk hS3
        have HLN := Aside0.mk (show S3.is.length = S2.is.length ∧ S3.act.length = S2.act.length ∧ S3.last.length = S2.last.length by rw [← hS3]; exact back_len S2 0)
        clear HT2 hS3
      case' neg =>
        simp only [if_neg hlc] at h
        have d3 : decide (lim < c) = false := decide_eq_false hlc
        obtain ⟨S3, hS3⟩ : ∃ S3, S2 = S3 := ⟨_, rfl⟩
        rw [hS3] at h
        have HEQ := Aside0.mk hS3
        have HLN := Aside0.mk (show S3.is.length = S2.is.length ∧ S3.act.length = S2.act.length ∧ S3.last.length = S2.last.length by rw [← hS3]; exact ⟨rfl, rfl, rfl⟩)
        clear hS3
      all_goals
        by_cases hst : 1000000000 < S3.starts.length
        · rw [if_pos hst] at h; cases h
        rw [if_neg hst] at h
        have HST0 := Aside0.mk (show S3.starts.length ≤ 1000000000 by omega)
        have HNI := Aside0.mk (show S3.is.length ≤ 1000000000 by have := HLN.out.1; have h5 := HOK.out.1.1.i; have := HOK.out.1.2; omega)
        have HNA := Aside0.mk (show S3.act.length ≤ 1000000000 ∧ S3.last.length ≤ 1000000000 by have := HLN.out; have h5 := HOK.out.1.1.a; have h6 := HOK.out.1.1.t; have := HOK.out.1.2; omega)
        clear hok hno hsp hok2 hnn hfo hk hcb hlc hst HLN
        by_cases hAl : S3.starts.length < As.length
        · obtain ⟨x, hx⟩ : ∃ x, As[S3.starts.length]? = some x := ⟨_, List.getElem?_eq_getElem hAl⟩
          rw [hx] at h
          dsimp only at h
          obtain ⟨ad, rfl, _⟩ := (H0.out.lets (i := 2) rfl HC.out) _ _ hx
          have HX := Aside0.mk hx
          have HZX := Aside0.mk (show ∀ (w' : World), St w U w' [Mt (spend m1).1, sol b S3, C] → w'.cell? (ad.add S3.starts.length) = some (.int .i64 x) from fun w' hh => by
            obtain ⟨ad', e, hc⟩ := (hh.lets (i := 2) rfl HC.out) _ _ hx
            cases e
            exact hc)
          have a1 : decide (S3.starts.length < As.length) = true := decide_eq_true hAl
          have a2 : decide ((S3.starts.length : Int) < (As.length : Int)) = true := decide_eq_true (by omega)
          have a3 : ((S3.starts.length : Int) < (As.length : Int)) = True := eq_true (by omega)
          have a4 : (S3.starts.length < As.length) = True := eq_true hAl
          have a5 : (0 ≤ (S3.starts.length : Int)) = True := eq_true (by omega)
          obtain ⟨t, ht⟩ : ∃ t, S3.truth x = some t := by
            match hq : S3.truth x with
            | none => rw [hq] at h; cases h
            | some z => exact ⟨z, rfl⟩
          rw [ht] at h
          dsimp only at h
          have HTR := Aside0.mk ht
          by_cases h1 : t = -1
          · rw [if_pos h1] at h
            have h7 := Option.some.inj h
            simp only [Prod.mk.injEq] at h7
            obtain ⟨rfl, rfl, rfl⟩ := h7
            have d7 : (t == -1) = true := beq_iff_eq.2 h1
            clear h hAl hx ht h1
            go_wp2_with (first
              | (go_at_call 43; (refine (St.does (L1 := [Mt m1]) (L2 := [sol b S1, C]) H0.out (HS.out _ _)).mono ?_); rintro e w1_ ⟨L1', ⟨rfl, rfl⟩, H1⟩; clear H0 cS; have H0 := Aside0.mk (show St w U w1_ [Mt (spend m1).1, sol b S1, C] from H1); clear H1; rw [HSP.out])
              | (go_at_call 44; (refine (St.does (L1 := [sol b S1]) (L2 := [Mt (spend m1).1, C]) (H0.out.perm (perm_idx [1, 0, 2] (by rfl) rfl)) (q_follow HFO.out HBD.out)).mono ?_); rintro e w5_ ⟨L1', ⟨rfl, rfl⟩, H1⟩; rw [HEQ.out] at H1; clear H0; have HTS := Aside0.mk (show St w U w5_ [sol b S3, Mt (spend m1).1, C] from H1); have H0 := Aside0.mk (show St w U w5_ [Mt (spend m1).1, sol b S3, C] from H1.perm (perm_idx [1, 0, 2] (by rfl) rfl)); clear H1; obtain ⟨r, h2⟩ := st_open (H0.out.perm (perm_idx [1, 0, 2] (by rfl) rfl)); obtain ⟨A0, c0, gw, A3, c3, A4, c4, A5, c5, A6, c6, A7, c7, A9, c9, A10, c10⟩ := r; have cS := h2.cell (i := 0) rfl; dsimp only [cells] at cS; clear h2; have zx := HZX.out _ H0.out)
              | (go_at_call 44; (refine (St.does (L1 := [sol b S1]) (L2 := [Mt (spend m1).1, C]) (H0.out.perm (perm_idx [1, 0, 2] (by rfl) rfl)) (q_follow HFO.out HBD.out)).mono ?_); rintro e w2_ ⟨L1', ⟨rfl, rfl⟩, H1⟩; clear H0; have H0 := Aside0.mk (show St w U w2_ [Mt (spend m1).1, sol b S2, C] from H1.perm (perm_idx [1, 0, 2] (by rfl) rfl)); clear H1)
              | (go_at_call 29; (refine (St.does (L1 := [sol b S2]) (L2 := [Mt (spend m1).1, C]) (H0.out.perm (perm_idx [1, 0, 2] (by rfl) rfl)) (q_back 0 HMB.out.1 HOK.out.2.2.2.1)).mono ?_); rintro e w5_ ⟨L1', ⟨rfl, rfl⟩, H1⟩; rw [HS3.out] at H1; clear H0; have HTS := Aside0.mk (show St w U w5_ [sol b S3, Mt (spend m1).1, C] from H1); have H0 := Aside0.mk (show St w U w5_ [Mt (spend m1).1, sol b S3, C] from H1.perm (perm_idx [1, 0, 2] (by rfl) rfl)); clear H1; obtain ⟨r, h2⟩ := st_open (H0.out.perm (perm_idx [1, 0, 2] (by rfl) rfl)); obtain ⟨A0, c0, gw, A3, c3, A4, c4, A5, c5, A6, c6, A7, c7, A9, c9, A10, c10⟩ := r; have cS := h2.cell (i := 0) rfl; dsimp only [cells] at cS; clear h2; have zx := HZX.out _ H0.out)
              | (go_at_call 37; (with_reducible refine (q_truthM HTS.out.sep HTR.out HNI.out).mono ?_); rintro e w' ⟨rfl, rfl⟩))
            go_ret
            exact ⟨_, ⟨rfl, rfl⟩, H0.out⟩
          · rw [if_neg h1] at h
            have d7 : (t == -1) = false := beq_eq_false_iff_ne.2 h1
            obtain ⟨t2, ht2⟩ : ∃ t2, S3.push.truth x = some t2 := by
              unfold Sol.tryLit at h
              match hq : S3.push.truth x with
              | none => rw [hq] at h; cases h
              | some z => exact ⟨z, rfl⟩
            unfold Sol.tryLit at h
            rw [ht2] at h
            dsimp only at h
            have HTR2 := Aside0.mk ht2
            clear hAl hx ht h1 ht2
            go_wp2_with (first
              | (go_at_call 43; (refine (St.does (L1 := [Mt m1]) (L2 := [sol b S1, C]) H0.out (HS.out _ _)).mono ?_); rintro e w1_ ⟨L1', ⟨rfl, rfl⟩, H1⟩; clear H0 cS; have H0 := Aside0.mk (show St w U w1_ [Mt (spend m1).1, sol b S1, C] from H1); clear H1; rw [HSP.out])
              | (go_at_call 44; (refine (St.does (L1 := [sol b S1]) (L2 := [Mt (spend m1).1, C]) (H0.out.perm (perm_idx [1, 0, 2] (by rfl) rfl)) (q_follow HFO.out HBD.out)).mono ?_); rintro e w5_ ⟨L1', ⟨rfl, rfl⟩, H1⟩; rw [HEQ.out] at H1; clear H0; have HTS := Aside0.mk (show St w U w5_ [sol b S3, Mt (spend m1).1, C] from H1); have H0 := Aside0.mk (show St w U w5_ [Mt (spend m1).1, sol b S3, C] from H1.perm (perm_idx [1, 0, 2] (by rfl) rfl)); clear H1; obtain ⟨r, h2⟩ := st_open (H0.out.perm (perm_idx [1, 0, 2] (by rfl) rfl)); obtain ⟨A0, c0, gw, A3, c3, A4, c4, A5, c5, A6, c6, A7, c7, A9, c9, A10, c10⟩ := r; have cS := h2.cell (i := 0) rfl; dsimp only [cells] at cS; clear h2; have zx := HZX.out _ H0.out)
              | (go_at_call 44; (refine (St.does (L1 := [sol b S1]) (L2 := [Mt (spend m1).1, C]) (H0.out.perm (perm_idx [1, 0, 2] (by rfl) rfl)) (q_follow HFO.out HBD.out)).mono ?_); rintro e w2_ ⟨L1', ⟨rfl, rfl⟩, H1⟩; clear H0; have H0 := Aside0.mk (show St w U w2_ [Mt (spend m1).1, sol b S2, C] from H1.perm (perm_idx [1, 0, 2] (by rfl) rfl)); clear H1)
              | (go_at_call 29; (refine (St.does (L1 := [sol b S2]) (L2 := [Mt (spend m1).1, C]) (H0.out.perm (perm_idx [1, 0, 2] (by rfl) rfl)) (q_back 0 HMB.out.1 HOK.out.2.2.2.1)).mono ?_); rintro e w5_ ⟨L1', ⟨rfl, rfl⟩, H1⟩; rw [HS3.out] at H1; clear H0; have HTS := Aside0.mk (show St w U w5_ [sol b S3, Mt (spend m1).1, C] from H1); have H0 := Aside0.mk (show St w U w5_ [Mt (spend m1).1, sol b S3, C] from H1.perm (perm_idx [1, 0, 2] (by rfl) rfl)); clear H1; obtain ⟨r, h2⟩ := st_open (H0.out.perm (perm_idx [1, 0, 2] (by rfl) rfl)); obtain ⟨A0, c0, gw, A3, c3, A4, c4, A5, c5, A6, c6, A7, c7, A9, c9, A10, c10⟩ := r; have cS := h2.cell (i := 0) rfl; dsimp only [cells] at cS; clear h2; have zx := HZX.out _ H0.out)
              | (go_at_call 37; (with_reducible refine (q_truthM HTS.out.sep HTR.out HNI.out).mono ?_); rintro e w' ⟨rfl, rfl⟩))
            clear cS
            have HST := Aside0.mk (show S3.starts.length ≤ 1000000000 from HST0.out)
            obtain ⟨r, h2⟩ := st_open (H0.out.perm (perm_idx [1, 0, 2] (by rfl) rfl))
            obtain ⟨A0, c0, gw, A3, c3, A4, c4, A5, c5, A6, c6, A7, c7, A9, c9, A10, c10⟩ := r
            have H := Aside0.mk (show St w U w5_ [blk b #[.slice A0 S3.l.length c0, .int .i64 S3.added, .map (some gw), .slice A3 S3.is.length c3, .slice A4 S3.level.length c4, .slice A5 S3.why.length c5, .slice A6 S3.act.length c6, .slice A7 S3.last.length c7, .int .i64 S3.bump, .slice A9 S3.trail.length c9, .slice A10 S3.starts.length c10, .int .i64 S3.next, .int .i64 S3.vars, .bool S3.nothing] 50, ir A3 S3.is.length c3 S3.is, ir A4 S3.level.length c4 S3.level, ir A5 S3.why.length c5 S3.why, ir A6 S3.act.length c6 S3.act, ir A7 S3.last.length c7 S3.last, ir A9 S3.trail.length c9 S3.trail, ir A10 S3.starts.length c10 S3.starts, rr A0 S3.l.length c0 (S3.l.map .own), wm gw (ownE S3.watch), Mt (spend m1).1, C] from h2)
            clear h2 H0 HTS
            refine start_ (n := 15) (S := fun w' => (∀ j : Nat, w'.cell? ⟨b, j, none⟩ = (#[.slice A0 S3.l.length c0, .int .i64 S3.added, .map (some gw), .slice A3 S3.is.length c3, .slice A4 S3.level.length c4, .slice A5 S3.why.length c5, .slice A6 S3.act.length c6, .slice A7 S3.last.length c7, .int .i64 S3.bump, .slice A9 S3.trail.length c9, .slice A10 S3.starts.length c10, .int .i64 S3.next, .int .i64 S3.vars, .bool S3.nothing] : Array Value)[j]?)) (ds := [14]) #[false, false, false, false, false, false, false, false, false, false, false, false, false, false, false] (by kernel_rfl) rfl rfl ((H.out.drew.cell (i := 0) rfl)) (fun hHeld => ?_)
            refine pure_ (i := 0) (N := some 65) (v := ?_) (a' := ?_) #[true, false, false, false, false, false, false, false, false, false, false, false, false, false, false] rfl rfl (by kernel_rfl) (fun _ _ _ h => h) (Or.inl ⟨by rfl, ?_⟩) ?_ ?_
            rotate_left
            · intro w'
              go_simp
              with_reducible rfl
            rotate_left
            · simp only [Act.put, List.setIfInBounds_toArray, List.set_cons_zero, List.set_cons_succ, i64_w, i32_w]
              rfl
            refine pure_ (i := 1) (N := some 66) (v := ?_) (a' := ?_) #[true, true, false, false, false, false, false, false, false, false, false, false, false, false, false] rfl rfl (by kernel_rfl) (fun _ _ _ h => h) (Or.inl ⟨by rfl, ?_⟩) ?_ ?_
            rotate_left
            · intro w'
              go_simp
              with_reducible rfl
            rotate_left
            · simp only [Act.put, List.setIfInBounds_toArray, List.set_cons_zero, List.set_cons_succ, i64_w, i32_w]
              rfl
            refine pure_ (i := 2) (N := some 67) (v := ?_) (a' := ?_) #[true, true, true, false, false, false, false, false, false, false, false, false, false, false, false] rfl rfl (by kernel_rfl) (fun _ _ _ h => h) (Or.inl ⟨by rfl, ?_⟩) ?_ ?_
            rotate_left
            · intro w'
              go_simp
              with_reducible rfl
            rotate_left
            · simp only [Act.put, List.setIfInBounds_toArray, List.set_cons_zero, List.set_cons_succ, i64_w, i32_w]
              rfl
            refine pure_ (i := 3) (N := some 68) (v := ?_) (a' := ?_) #[true, true, true, true, false, false, false, false, false, false, false, false, false, false, false] rfl rfl (by kernel_rfl) (fun _ _ _ h => h) (Or.inl ⟨by rfl, ?_⟩) ?_ ?_
            rotate_left
            · intro w'
              go_simp
              with_reducible rfl
            rotate_left
            · simp only [Act.put, List.setIfInBounds_toArray, List.set_cons_zero, List.set_cons_succ, i64_w, i32_w]
              rfl
            refine pure_ (i := 5) (N := some 70) (v := ?_) (a' := ?_) #[true, true, true, true, false, true, false, false, false, false, false, false, false, false, false] rfl rfl (by kernel_rfl) (fun _ _ _ h => h) (Or.inl ⟨by rfl, ?_⟩) ?_ ?_
            rotate_left
            · intro w'
              go_simp
              with_reducible rfl
            rotate_left
            · simp only [Act.put, List.setIfInBounds_toArray, List.set_cons_zero, List.set_cons_succ, i64_w, i32_w]
              rfl
            refine pure_ (i := 6) (N := some 71) (v := ?_) (a' := ?_) #[true, true, true, true, false, true, true, false, false, false, false, false, false, false, false] rfl rfl (by kernel_rfl) (fun _ _ _ h => h) (Or.inl ⟨by rfl, ?_⟩) ?_ ?_
            rotate_left
            · intro w'
              go_simp
              with_reducible rfl
            rotate_left
            · simp only [Act.put, List.setIfInBounds_toArray, List.set_cons_zero, List.set_cons_succ, i64_w, i32_w]
              rfl
            refine pure_ (i := 7) (N := some 72) (v := ?_) (a' := ?_) #[true, true, true, true, false, true, true, true, false, false, false, false, false, false, false] rfl rfl (by kernel_rfl) (fun _ _ _ h => h) (Or.inl ⟨by rfl, ?_⟩) ?_ ?_
            rotate_left
            · intro w'
              go_simp
              with_reducible rfl
            rotate_left
            · simp only [Act.put, List.setIfInBounds_toArray, List.set_cons_zero, List.set_cons_succ, i64_w, i32_w]
              rfl
            refine take_ (i := 4) (N := some 69) (v := ?_) (a' := ?_) #[true, true, true, true, true, true, true, true, false, false, false, false, false, false, false] rfl rfl (by kernel_rfl) (fun _ _ _ h => h) (Or.inl ⟨by rfl, ?_⟩) hHeld ?_ ?_
            rotate_left
            · intro w' s0
              go_simp
              with_reducible rfl
            rotate_left
            · simp only [Act.put, List.setIfInBounds_toArray, List.set_cons_zero, List.set_cons_succ, i64_w, i32_w]
              rfl
            refine take_ (i := 8) (N := some 73) (v := ?_) (a' := ?_) #[true, true, true, true, true, true, true, true, true, false, false, false, false, false, false] rfl rfl (by kernel_rfl) (fun _ _ _ h => h) (Or.inl ⟨by rfl, ?_⟩) hHeld ?_ ?_
            rotate_left
            · intro w' s0
              go_simp
              with_reducible rfl
            rotate_left
            · simp only [Act.put, List.setIfInBounds_toArray, List.set_cons_zero, List.set_cons_succ, i64_w, i32_w]
              rfl
            refine pure_ (i := 9) (N := some 74) (v := ?_) (a' := ?_) #[true, true, true, true, true, true, true, true, true, true, false, false, false, false, false] rfl rfl (by kernel_rfl) (fun _ _ _ h => h) (Or.inl ⟨by rfl, ?_⟩) ?_ ?_
            rotate_left
            · intro w'
              go_simp
              with_reducible rfl
            rotate_left
            · simp only [Act.put, List.setIfInBounds_toArray, List.set_cons_zero, List.set_cons_succ, i64_w, i32_w]
              rfl
            refine one_ (i := 10) (N := some 75) #[true, true, true, true, true, true, true, true, true, true, true, false, false, false, false] rfl rfl (by kernel_rfl) (by decide) (fun K hK => ?_)
            refine st_lit (by rfl) rfl H.out.drew (n := 1) (cs := #[.int .i64 (S3.trail.length : Int)]) (t := 3) ?hr ?_
            (case hr => first | (go_simp; done) | (go_simp; rfl))
            intro gt w7_ H1
            clear H
            have H := Aside0.mk (show St w U w7_ [blk gt #[.int .i64 (S3.trail.length : Int)] 3, blk b #[.slice A0 S3.l.length c0, .int .i64 S3.added, .map (some gw), .slice A3 S3.is.length c3, .slice A4 S3.level.length c4, .slice A5 S3.why.length c5, .slice A6 S3.act.length c6, .slice A7 S3.last.length c7, .int .i64 S3.bump, .slice A9 S3.trail.length c9, .slice A10 S3.starts.length c10, .int .i64 S3.next, .int .i64 S3.vars, .bool S3.nothing] 50, ir A3 S3.is.length c3 S3.is, ir A4 S3.level.length c4 S3.level, ir A5 S3.why.length c5 S3.why, ir A6 S3.act.length c6 S3.act, ir A7 S3.last.length c7 S3.last, ir A9 S3.trail.length c9 S3.trail, ir A10 S3.starts.length c10 S3.starts, rr A0 S3.l.length c0 (S3.l.map .own), wm gw (ownE S3.watch), Mt (spend m1).1, C] from H1)
            clear H1
            refine hK.out _ _ ((H.out.cell (i := 1) rfl)) (fun hHeld => ?_)
            clear hK K
            refine norm_ (a' := ?_) ?_ ?_
            rotate_left
            · show Act.put _ (some 75) _ = _
              simp only [Act.put, List.setIfInBounds_toArray, List.set_cons_zero, List.set_cons_succ, i64_w, i32_w]
              rfl
            refine one_ (i := 11) (N := some 76) #[true, true, true, true, true, true, true, true, true, true, true, true, false, false, false] rfl rfl (by kernel_rfl) (by decide) (fun K hK => ?_)
            refine st_append (by rfl) rfl H.out (i := 8) rfl (s := .tmp 69) (x := .tmp 75) rfl Try.underlying23 infoI (by rfl) (by rfl) (m := 1) (ys := [(S3.trail.length : Int)]) rfl (Rdc.blk1 (H.out.blk (i := 0) rfl)) (by have := HST.out; omega) ?_
            intro A10' c10' w8_ H1
            clear H
            have H1 := H1.drop
            have H := Aside0.mk (show St w U w8_ [blk b #[.slice A0 S3.l.length c0, .int .i64 S3.added, .map (some gw), .slice A3 S3.is.length c3, .slice A4 S3.level.length c4, .slice A5 S3.why.length c5, .slice A6 S3.act.length c6, .slice A7 S3.last.length c7, .int .i64 S3.bump, .slice A9 S3.trail.length c9, .slice A10 S3.starts.length c10, .int .i64 S3.next, .int .i64 S3.vars, .bool S3.nothing] 50, ir A3 S3.is.length c3 S3.is, ir A4 S3.level.length c4 S3.level, ir A5 S3.why.length c5 S3.why, ir A6 S3.act.length c6 S3.act, ir A7 S3.last.length c7 S3.last, ir A9 S3.trail.length c9 S3.trail, ir A10' (S3.starts.length + 1) c10' (S3.starts ++ [(S3.trail.length : Int)]), rr A0 S3.l.length c0 (S3.l.map .own), wm gw (ownE S3.watch), Mt (spend m1).1, C] from H1)
            clear H1
            have fS := H.out.frz (i := 0) rfl
            have cS := H.out.cell (i := 0) rfl
            refine hK.out _ _ ((H.out.cell (i := 0) rfl)) (fun hHeld => ?_)
            clear hK K
            refine norm_ (a' := ?_) ?_ ?_
            rotate_left
            · show Act.put _ (some 76) _ = _
              simp only [Act.put, List.setIfInBounds_toArray, List.set_cons_zero, List.set_cons_succ, i64_w, i32_w]
              rfl
            refine pure_ (i := 12) (N := some 77) (v := ?_) (a' := ?_) #[true, true, true, true, true, true, true, true, true, true, true, true, true, false, false] rfl rfl (by kernel_rfl) (fun _ _ _ h => h) (Or.inl ⟨by rfl, ?_⟩) ?_ ?_
            rotate_left
            · intro w'
              go_simp
              with_reducible rfl
            rotate_left
            · simp only [Act.put, List.setIfInBounds_toArray, List.set_cons_zero, List.set_cons_succ, i64_w, i32_w]
              rfl
            refine pure_ (i := 13) (N := some 78) (v := ?_) (a' := ?_) #[true, true, true, true, true, true, true, true, true, true, true, true, true, true, false] rfl rfl (by kernel_rfl) (fun _ _ _ h => h) (Or.inl ⟨by rfl, ?_⟩) ?_ ?_
            rotate_left
            · intro w'
              go_simp
              with_reducible rfl
            rotate_left
            · simp only [Act.put, List.setIfInBounds_toArray, List.set_cons_zero, List.set_cons_succ, i64_w, i32_w]
              rfl
            refine last_ (i := 14) (N := none) #[true, true, true, true, true, true, true, true, true, true, true, true, true, true, true] rfl rfl (by kernel_rfl) (by decide) (fun K hK => ?_)
            refine st_store (by rfl) rfl H.out (i := 0) rfl 10 (.slice A10' (S3.starts.length + 1) c10') rfl ?hr2 ?_
            (case hr2 => first | (go_simp; done) | (go_simp; rfl))
            intro wv H1
            clear H cS fS
            have H := Aside0.mk (show St w U wv [blk b #[.slice A0 S3.l.length c0, .int .i64 S3.added, .map (some gw), .slice A3 S3.is.length c3, .slice A4 S3.level.length c4, .slice A5 S3.why.length c5, .slice A6 S3.act.length c6, .slice A7 S3.last.length c7, .int .i64 S3.bump, .slice A9 S3.trail.length c9, .slice A10' (S3.starts.length + 1) c10', .int .i64 S3.next, .int .i64 S3.vars, .bool S3.nothing] 50, ir A3 S3.is.length c3 S3.is, ir A4 S3.level.length c4 S3.level, ir A5 S3.why.length c5 S3.why, ir A6 S3.act.length c6 S3.act, ir A7 S3.last.length c7 S3.last, ir A9 S3.trail.length c9 S3.trail, ir A10' (S3.starts.length + 1) c10' (S3.starts ++ [(S3.trail.length : Int)]), rr A0 S3.l.length c0 (S3.l.map .own), wm gw (ownE S3.watch), Mt (spend m1).1, C] from H1)
            clear H1
            refine hK.out _ _ ?_
            clear hK K
            refine done_ (by kernel_rfl) ?_

            have h3 := st_shut (S := S3.push) ⟨A0, c0, gw, A3, c3, A4, c4, A5, c5, A6, c6, A7, c7, A9, c9, A10', c10'⟩ (by simpa only [openedG, cells, Sol.push, List.length_append, List.length_cons, List.length_nil, Nat.zero_add, List.cons_append, List.nil_append] using H.out)
            have H0 := Aside0.mk (show St w U wv [Mt (spend m1).1, sol b S3.push, C] from h3.perm (perm_idx [1, 0, 2] (by rfl) rfl))
            have HTS := Aside0.mk (show St w U wv [sol b S3.push, Mt (spend m1).1, C] from h3)
            have HNI2 := Aside0.mk (show S3.push.is.length ≤ 1000000000 from HNI.out)
            clear h3 H
            by_cases ht0 : t2 = 0
            · rw [if_pos ht0] at h
              by_cases hmp : S3.push.mayPut x
              case neg => rw [if_neg hmp] at h; cases h
              rw [if_pos hmp] at h
              dsimp only at h
              have HP := Aside0.mk (show -1000000000 ≤ x ∧ x ≤ 1000000000 ∧ x.natAbs < S3.push.is.length ∧ x.natAbs < S3.push.level.length ∧ x.natAbs < S3.push.why.length ∧ S3.push.trail.length ≤ 1000000000 from ⟨by have := hmp.2.2.2.2; omega, by have := hmp.2.2.2.2; omega, hmp.1, hmp.2.1, hmp.2.2.1, hmp.2.2.2.1⟩)
              have HR := Aside0.mk h
              have d8 : (t2 == 0) = true := beq_iff_eq.2 ht0
              clear h hmp ht0
              go_wp2_with (first
                | (go_at_call 37; (with_reducible refine (q_truthM HTS.out.sep HTR2.out HNI2.out).mono ?_); rintro e w' ⟨rfl, rfl⟩)
                | (go_at_call 40; (refine (St.does (L1 := [sol b S3.push]) (L2 := [Mt (spend m1).1, C]) (H0.out.perm (perm_idx [1, 0, 2] (by rfl) rfl)) (q_put x (-1) HP.out.1 HP.out.2.1 HP.out.2.2.1 HP.out.2.2.2.1 HP.out.2.2.2.2.1 HP.out.2.2.2.2.2)).mono ?_); rintro e w9_ ⟨L1', ⟨rfl, rfl⟩, H1⟩; clear H0; have H0 := Aside0.mk (show St w U w9_ [Mt (spend m1).1, sol b (S3.push.put x (-1)), C] from H1.perm (perm_idx [1, 0, 2] (by rfl) rfl)); clear H1))
              go_roundg k1
              case measure => have := HQ.out; omega
              case rel => exact ⟨f1, _, _, _, _, rfl, rfl, ⟨Nat.lt_of_succ_lt_succ HQ.out⟩, HR, H0⟩
            · rw [if_neg ht0] at h
              dsimp only at h
              have HR := Aside0.mk h
              have d8 : (t2 == 0) = false := beq_eq_false_iff_ne.2 ht0
              clear h ht0
              go_wp2_with (first
                | (go_at_call 37; (with_reducible refine (q_truthM HTS.out.sep HTR2.out HNI2.out).mono ?_); rintro e w' ⟨rfl, rfl⟩))
              go_roundg k1
              case measure => have := HQ.out; omega
              case rel => exact ⟨f1, _, _, _, _, rfl, rfl, ⟨Nat.lt_of_succ_lt_succ HQ.out⟩, HR, H0⟩
        · rw [List.getElem?_eq_none (by omega)] at h
          dsimp only at h
          have a1 : decide (S3.starts.length < As.length) = false := decide_eq_false hAl
          have a2 : decide ((S3.starts.length : Int) < (As.length : Int)) = false := decide_eq_false (by omega)
          obtain ⟨x, hpl⟩ : ∃ x, S3.pickLit seed vars = some x := by
            match hq : S3.pickLit seed vars with
            | none => rw [hq] at h; cases h
            | some z => exact ⟨z, rfl⟩
          rw [hpl] at h
          dsimp only at h
          have HPL := Aside0.mk hpl
          by_cases h1 : x = 0
          · rw [if_pos h1] at h
            have h7 := Option.some.inj h
            simp only [Prod.mk.injEq] at h7
            obtain ⟨rfl, rfl, rfl⟩ := h7
            have d7 : (x == 0) = true := beq_iff_eq.2 h1
            clear h hAl hpl h1
            go_wp2_with (first
              | (go_at_call 43; (refine (St.does (L1 := [Mt m1]) (L2 := [sol b S1, C]) H0.out (HS.out _ _)).mono ?_); rintro e w1_ ⟨L1', ⟨rfl, rfl⟩, H1⟩; clear H0 cS; have H0 := Aside0.mk (show St w U w1_ [Mt (spend m1).1, sol b S1, C] from H1); clear H1; rw [HSP.out])
              | (go_at_call 44; (refine (St.does (L1 := [sol b S1]) (L2 := [Mt (spend m1).1, C]) (H0.out.perm (perm_idx [1, 0, 2] (by rfl) rfl)) (q_follow HFO.out HBD.out)).mono ?_); rintro e w5_ ⟨L1', ⟨rfl, rfl⟩, H1⟩; rw [HEQ.out] at H1; clear H0; have HTS := Aside0.mk (show St w U w5_ [sol b S3, Mt (spend m1).1, C] from H1); have H0 := Aside0.mk (show St w U w5_ [Mt (spend m1).1, sol b S3, C] from H1.perm (perm_idx [1, 0, 2] (by rfl) rfl)); clear H1; obtain ⟨r, h2⟩ := st_open (H0.out.perm (perm_idx [1, 0, 2] (by rfl) rfl)); obtain ⟨A0, c0, gw, A3, c3, A4, c4, A5, c5, A6, c6, A7, c7, A9, c9, A10, c10⟩ := r; have cS := h2.cell (i := 0) rfl; dsimp only [cells] at cS; clear h2)
              | (go_at_call 44; (refine (St.does (L1 := [sol b S1]) (L2 := [Mt (spend m1).1, C]) (H0.out.perm (perm_idx [1, 0, 2] (by rfl) rfl)) (q_follow HFO.out HBD.out)).mono ?_); rintro e w2_ ⟨L1', ⟨rfl, rfl⟩, H1⟩; clear H0; have H0 := Aside0.mk (show St w U w2_ [Mt (spend m1).1, sol b S2, C] from H1.perm (perm_idx [1, 0, 2] (by rfl) rfl)); clear H1)
              | (go_at_call 29; (refine (St.does (L1 := [sol b S2]) (L2 := [Mt (spend m1).1, C]) (H0.out.perm (perm_idx [1, 0, 2] (by rfl) rfl)) (q_back 0 HMB.out.1 HOK.out.2.2.2.1)).mono ?_); rintro e w5_ ⟨L1', ⟨rfl, rfl⟩, H1⟩; rw [HS3.out] at H1; clear H0; have HTS := Aside0.mk (show St w U w5_ [sol b S3, Mt (spend m1).1, C] from H1); have H0 := Aside0.mk (show St w U w5_ [Mt (spend m1).1, sol b S3, C] from H1.perm (perm_idx [1, 0, 2] (by rfl) rfl)); clear H1; obtain ⟨r, h2⟩ := st_open (H0.out.perm (perm_idx [1, 0, 2] (by rfl) rfl)); obtain ⟨A0, c0, gw, A3, c3, A4, c4, A5, c5, A6, c6, A7, c7, A9, c9, A10, c10⟩ := r; have cS := h2.cell (i := 0) rfl; dsimp only [cells] at cS; clear h2)
              | (go_at_call 46; (refine (q_decide seed vars x HTS.out.sep HPL.out HV.out ⟨HNI.out, HNA.out.1, HNA.out.2⟩).mono ?_); rintro e w6_ ⟨rfl, hB⟩; have H1 := H0.out.quiet hB; clear H0 hB cS; have H0 := Aside0.mk (show St w U w6_ [Mt (spend m1).1, sol b S3, C] from H1); clear H1))
            go_ret
            exact ⟨_, ⟨rfl, rfl⟩, H0.out⟩
          · rw [if_neg h1] at h
            have d7 : (x == 0) = false := beq_eq_false_iff_ne.2 h1
            obtain ⟨t2, ht2⟩ : ∃ t2, S3.push.truth x = some t2 := by
              unfold Sol.tryLit at h
              match hq : S3.push.truth x with
              | none => rw [hq] at h; cases h
              | some z => exact ⟨z, rfl⟩
            unfold Sol.tryLit at h
            rw [ht2] at h
            dsimp only at h
            have HTR2 := Aside0.mk ht2
            clear hAl hpl h1 ht2
            go_wp2_with (first
              | (go_at_call 43; (refine (St.does (L1 := [Mt m1]) (L2 := [sol b S1, C]) H0.out (HS.out _ _)).mono ?_); rintro e w1_ ⟨L1', ⟨rfl, rfl⟩, H1⟩; clear H0 cS; have H0 := Aside0.mk (show St w U w1_ [Mt (spend m1).1, sol b S1, C] from H1); clear H1; rw [HSP.out])
              | (go_at_call 44; (refine (St.does (L1 := [sol b S1]) (L2 := [Mt (spend m1).1, C]) (H0.out.perm (perm_idx [1, 0, 2] (by rfl) rfl)) (q_follow HFO.out HBD.out)).mono ?_); rintro e w5_ ⟨L1', ⟨rfl, rfl⟩, H1⟩; rw [HEQ.out] at H1; clear H0; have HTS := Aside0.mk (show St w U w5_ [sol b S3, Mt (spend m1).1, C] from H1); have H0 := Aside0.mk (show St w U w5_ [Mt (spend m1).1, sol b S3, C] from H1.perm (perm_idx [1, 0, 2] (by rfl) rfl)); clear H1; obtain ⟨r, h2⟩ := st_open (H0.out.perm (perm_idx [1, 0, 2] (by rfl) rfl)); obtain ⟨A0, c0, gw, A3, c3, A4, c4, A5, c5, A6, c6, A7, c7, A9, c9, A10, c10⟩ := r; have cS := h2.cell (i := 0) rfl; dsimp only [cells] at cS; clear h2)
              | (go_at_call 44; (refine (St.does (L1 := [sol b S1]) (L2 := [Mt (spend m1).1, C]) (H0.out.perm (perm_idx [1, 0, 2] (by rfl) rfl)) (q_follow HFO.out HBD.out)).mono ?_); rintro e w2_ ⟨L1', ⟨rfl, rfl⟩, H1⟩; clear H0; have H0 := Aside0.mk (show St w U w2_ [Mt (spend m1).1, sol b S2, C] from H1.perm (perm_idx [1, 0, 2] (by rfl) rfl)); clear H1)
              | (go_at_call 29; (refine (St.does (L1 := [sol b S2]) (L2 := [Mt (spend m1).1, C]) (H0.out.perm (perm_idx [1, 0, 2] (by rfl) rfl)) (q_back 0 HMB.out.1 HOK.out.2.2.2.1)).mono ?_); rintro e w5_ ⟨L1', ⟨rfl, rfl⟩, H1⟩; rw [HS3.out] at H1; clear H0; have HTS := Aside0.mk (show St w U w5_ [sol b S3, Mt (spend m1).1, C] from H1); have H0 := Aside0.mk (show St w U w5_ [Mt (spend m1).1, sol b S3, C] from H1.perm (perm_idx [1, 0, 2] (by rfl) rfl)); clear H1; obtain ⟨r, h2⟩ := st_open (H0.out.perm (perm_idx [1, 0, 2] (by rfl) rfl)); obtain ⟨A0, c0, gw, A3, c3, A4, c4, A5, c5, A6, c6, A7, c7, A9, c9, A10, c10⟩ := r; have cS := h2.cell (i := 0) rfl; dsimp only [cells] at cS; clear h2)
              | (go_at_call 46; (refine (q_decide seed vars x HTS.out.sep HPL.out HV.out ⟨HNI.out, HNA.out.1, HNA.out.2⟩).mono ?_); rintro e w6_ ⟨rfl, hB⟩; have H1 := H0.out.quiet hB; clear H0 hB cS; have H0 := Aside0.mk (show St w U w6_ [Mt (spend m1).1, sol b S3, C] from H1); clear H1))
            have HST := Aside0.mk (show S3.starts.length ≤ 1000000000 from HST0.out)
            obtain ⟨r, h2⟩ := st_open (H0.out.perm (perm_idx [1, 0, 2] (by rfl) rfl))
            obtain ⟨A0, c0, gw, A3, c3, A4, c4, A5, c5, A6, c6, A7, c7, A9, c9, A10, c10⟩ := r
            have H := Aside0.mk (show St w U w6_ [blk b #[.slice A0 S3.l.length c0, .int .i64 S3.added, .map (some gw), .slice A3 S3.is.length c3, .slice A4 S3.level.length c4, .slice A5 S3.why.length c5, .slice A6 S3.act.length c6, .slice A7 S3.last.length c7, .int .i64 S3.bump, .slice A9 S3.trail.length c9, .slice A10 S3.starts.length c10, .int .i64 S3.next, .int .i64 S3.vars, .bool S3.nothing] 50, ir A3 S3.is.length c3 S3.is, ir A4 S3.level.length c4 S3.level, ir A5 S3.why.length c5 S3.why, ir A6 S3.act.length c6 S3.act, ir A7 S3.last.length c7 S3.last, ir A9 S3.trail.length c9 S3.trail, ir A10 S3.starts.length c10 S3.starts, rr A0 S3.l.length c0 (S3.l.map .own), wm gw (ownE S3.watch), Mt (spend m1).1, C] from h2)
            clear h2 H0 HTS
            refine start_ (n := 15) (S := fun w' => (∀ j : Nat, w'.cell? ⟨b, j, none⟩ = (#[.slice A0 S3.l.length c0, .int .i64 S3.added, .map (some gw), .slice A3 S3.is.length c3, .slice A4 S3.level.length c4, .slice A5 S3.why.length c5, .slice A6 S3.act.length c6, .slice A7 S3.last.length c7, .int .i64 S3.bump, .slice A9 S3.trail.length c9, .slice A10 S3.starts.length c10, .int .i64 S3.next, .int .i64 S3.vars, .bool S3.nothing] : Array Value)[j]?)) (ds := [14]) #[false, false, false, false, false, false, false, false, false, false, false, false, false, false, false] (by kernel_rfl) rfl rfl ((H.out.drew.cell (i := 0) rfl)) (fun hHeld => ?_)
            refine pure_ (i := 0) (N := some 65) (v := ?_) (a' := ?_) #[true, false, false, false, false, false, false, false, false, false, false, false, false, false, false] rfl rfl (by kernel_rfl) (fun _ _ _ h => h) (Or.inl ⟨by rfl, ?_⟩) ?_ ?_
            rotate_left
            · intro w'
              go_simp
              with_reducible rfl
            rotate_left
            · simp only [Act.put, List.setIfInBounds_toArray, List.set_cons_zero, List.set_cons_succ, i64_w, i32_w]
              rfl
            refine pure_ (i := 1) (N := some 66) (v := ?_) (a' := ?_) #[true, true, false, false, false, false, false, false, false, false, false, false, false, false, false] rfl rfl (by kernel_rfl) (fun _ _ _ h => h) (Or.inl ⟨by rfl, ?_⟩) ?_ ?_
            rotate_left
            · intro w'
              go_simp
              with_reducible rfl
            rotate_left
            · simp only [Act.put, List.setIfInBounds_toArray, List.set_cons_zero, List.set_cons_succ, i64_w, i32_w]
              rfl
            refine pure_ (i := 2) (N := some 67) (v := ?_) (a' := ?_) #[true, true, true, false, false, false, false, false, false, false, false, false, false, false, false] rfl rfl (by kernel_rfl) (fun _ _ _ h => h) (Or.inl ⟨by rfl, ?_⟩) ?_ ?_
            rotate_left
            · intro w'
              go_simp
              with_reducible rfl
            rotate_left
            · simp only [Act.put, List.setIfInBounds_toArray, List.set_cons_zero, List.set_cons_succ, i64_w, i32_w]
              rfl
            refine pure_ (i := 3) (N := some 68) (v := ?_) (a' := ?_) #[true, true, true, true, false, false, false, false, false, false, false, false, false, false, false] rfl rfl (by kernel_rfl) (fun _ _ _ h => h) (Or.inl ⟨by rfl, ?_⟩) ?_ ?_
            rotate_left
            · intro w'
              go_simp
              with_reducible rfl
            rotate_left
            · simp only [Act.put, List.setIfInBounds_toArray, List.set_cons_zero, List.set_cons_succ, i64_w, i32_w]
              rfl
            refine pure_ (i := 5) (N := some 70) (v := ?_) (a' := ?_) #[true, true, true, true, false, true, false, false, false, false, false, false, false, false, false] rfl rfl (by kernel_rfl) (fun _ _ _ h => h) (Or.inl ⟨by rfl, ?_⟩) ?_ ?_
            rotate_left
            · intro w'
              go_simp
              with_reducible rfl
            rotate_left
            · simp only [Act.put, List.setIfInBounds_toArray, List.set_cons_zero, List.set_cons_succ, i64_w, i32_w]
              rfl
            refine pure_ (i := 6) (N := some 71) (v := ?_) (a' := ?_) #[true, true, true, true, false, true, true, false, false, false, false, false, false, false, false] rfl rfl (by kernel_rfl) (fun _ _ _ h => h) (Or.inl ⟨by rfl, ?_⟩) ?_ ?_
            rotate_left
            · intro w'
              go_simp
              with_reducible rfl
            rotate_left
            · simp only [Act.put, List.setIfInBounds_toArray, List.set_cons_zero, List.set_cons_succ, i64_w, i32_w]
              rfl
            refine pure_ (i := 7) (N := some 72) (v := ?_) (a' := ?_) #[true, true, true, true, false, true, true, true, false, false, false, false, false, false, false] rfl rfl (by kernel_rfl) (fun _ _ _ h => h) (Or.inl ⟨by rfl, ?_⟩) ?_ ?_
            rotate_left
            · intro w'
              go_simp
              with_reducible rfl
            rotate_left
            · simp only [Act.put, List.setIfInBounds_toArray, List.set_cons_zero, List.set_cons_succ, i64_w, i32_w]
              rfl
            refine take_ (i := 4) (N := some 69) (v := ?_) (a' := ?_) #[true, true, true, true, true, true, true, true, false, false, false, false, false, false, false] rfl rfl (by kernel_rfl) (fun _ _ _ h => h) (Or.inl ⟨by rfl, ?_⟩) hHeld ?_ ?_
            rotate_left
            · intro w' s0
              go_simp
              with_reducible rfl
            rotate_left
            · simp only [Act.put, List.setIfInBounds_toArray, List.set_cons_zero, List.set_cons_succ, i64_w, i32_w]
              rfl
            refine take_ (i := 8) (N := some 73) (v := ?_) (a' := ?_) #[true, true, true, true, true, true, true, true, true, false, false, false, false, false, false] rfl rfl (by kernel_rfl) (fun _ _ _ h => h) (Or.inl ⟨by rfl, ?_⟩) hHeld ?_ ?_
            rotate_left
            · intro w' s0
              go_simp
              with_reducible rfl
            rotate_left
            · simp only [Act.put, List.setIfInBounds_toArray, List.set_cons_zero, List.set_cons_succ, i64_w, i32_w]
              rfl
            refine pure_ (i := 9) (N := some 74) (v := ?_) (a' := ?_) #[true, true, true, true, true, true, true, true, true, true, false, false, false, false, false] rfl rfl (by kernel_rfl) (fun _ _ _ h => h) (Or.inl ⟨by rfl, ?_⟩) ?_ ?_
            rotate_left
            · intro w'
              go_simp
              with_reducible rfl
            rotate_left
            · simp only [Act.put, List.setIfInBounds_toArray, List.set_cons_zero, List.set_cons_succ, i64_w, i32_w]
              rfl
            refine one_ (i := 10) (N := some 75) #[true, true, true, true, true, true, true, true, true, true, true, false, false, false, false] rfl rfl (by kernel_rfl) (by decide) (fun K hK => ?_)
            refine st_lit (by rfl) rfl H.out.drew (n := 1) (cs := #[.int .i64 (S3.trail.length : Int)]) (t := 3) ?hr ?_
            (case hr => first | (go_simp; done) | (go_simp; rfl))
            intro gt w7_ H1
            clear H
            have H := Aside0.mk (show St w U w7_ [blk gt #[.int .i64 (S3.trail.length : Int)] 3, blk b #[.slice A0 S3.l.length c0, .int .i64 S3.added, .map (some gw), .slice A3 S3.is.length c3, .slice A4 S3.level.length c4, .slice A5 S3.why.length c5, .slice A6 S3.act.length c6, .slice A7 S3.last.length c7, .int .i64 S3.bump, .slice A9 S3.trail.length c9, .slice A10 S3.starts.length c10, .int .i64 S3.next, .int .i64 S3.vars, .bool S3.nothing] 50, ir A3 S3.is.length c3 S3.is, ir A4 S3.level.length c4 S3.level, ir A5 S3.why.length c5 S3.why, ir A6 S3.act.length c6 S3.act, ir A7 S3.last.length c7 S3.last, ir A9 S3.trail.length c9 S3.trail, ir A10 S3.starts.length c10 S3.starts, rr A0 S3.l.length c0 (S3.l.map .own), wm gw (ownE S3.watch), Mt (spend m1).1, C] from H1)
            clear H1
            refine hK.out _ _ ((H.out.cell (i := 1) rfl)) (fun hHeld => ?_)
            clear hK K
            refine norm_ (a' := ?_) ?_ ?_
            rotate_left
            · show Act.put _ (some 75) _ = _
              simp only [Act.put, List.setIfInBounds_toArray, List.set_cons_zero, List.set_cons_succ, i64_w, i32_w]
              rfl
            refine one_ (i := 11) (N := some 76) #[true, true, true, true, true, true, true, true, true, true, true, true, false, false, false] rfl rfl (by kernel_rfl) (by decide) (fun K hK => ?_)
            refine st_append (by rfl) rfl H.out (i := 8) rfl (s := .tmp 69) (x := .tmp 75) rfl Try.underlying23 infoI (by rfl) (by rfl) (m := 1) (ys := [(S3.trail.length : Int)]) rfl (Rdc.blk1 (H.out.blk (i := 0) rfl)) (by have := HST.out; omega) ?_
            intro A10' c10' w8_ H1
            clear H
            have H1 := H1.drop
            have H := Aside0.mk (show St w U w8_ [blk b #[.slice A0 S3.l.length c0, .int .i64 S3.added, .map (some gw), .slice A3 S3.is.length c3, .slice A4 S3.level.length c4, .slice A5 S3.why.length c5, .slice A6 S3.act.length c6, .slice A7 S3.last.length c7, .int .i64 S3.bump, .slice A9 S3.trail.length c9, .slice A10 S3.starts.length c10, .int .i64 S3.next, .int .i64 S3.vars, .bool S3.nothing] 50, ir A3 S3.is.length c3 S3.is, ir A4 S3.level.length c4 S3.level, ir A5 S3.why.length c5 S3.why, ir A6 S3.act.length c6 S3.act, ir A7 S3.last.length c7 S3.last, ir A9 S3.trail.length c9 S3.trail, ir A10' (S3.starts.length + 1) c10' (S3.starts ++ [(S3.trail.length : Int)]), rr A0 S3.l.length c0 (S3.l.map .own), wm gw (ownE S3.watch), Mt (spend m1).1, C] from H1)
            clear H1
            have fS := H.out.frz (i := 0) rfl
            have cS := H.out.cell (i := 0) rfl
            refine hK.out _ _ ((H.out.cell (i := 0) rfl)) (fun hHeld => ?_)
            clear hK K
            refine norm_ (a' := ?_) ?_ ?_
            rotate_left
            · show Act.put _ (some 76) _ = _
              simp only [Act.put, List.setIfInBounds_toArray, List.set_cons_zero, List.set_cons_succ, i64_w, i32_w]
              rfl
            refine pure_ (i := 12) (N := some 77) (v := ?_) (a' := ?_) #[true, true, true, true, true, true, true, true, true, true, true, true, true, false, false] rfl rfl (by kernel_rfl) (fun _ _ _ h => h) (Or.inl ⟨by rfl, ?_⟩) ?_ ?_
            rotate_left
            · intro w'
              go_simp
              with_reducible rfl
            rotate_left
            · simp only [Act.put, List.setIfInBounds_toArray, List.set_cons_zero, List.set_cons_succ, i64_w, i32_w]
              rfl
            refine pure_ (i := 13) (N := some 78) (v := ?_) (a' := ?_) #[true, true, true, true, true, true, true, true, true, true, true, true, true, true, false] rfl rfl (by kernel_rfl) (fun _ _ _ h => h) (Or.inl ⟨by rfl, ?_⟩) ?_ ?_
            rotate_left
            · intro w'
              go_simp
              with_reducible rfl
            rotate_left
            · simp only [Act.put, List.setIfInBounds_toArray, List.set_cons_zero, List.set_cons_succ, i64_w, i32_w]
              rfl
            refine last_ (i := 14) (N := none) #[true, true, true, true, true, true, true, true, true, true, true, true, true, true, true] rfl rfl (by kernel_rfl) (by decide) (fun K hK => ?_)
            refine st_store (by rfl) rfl H.out (i := 0) rfl 10 (.slice A10' (S3.starts.length + 1) c10') rfl ?hr2 ?_
            (case hr2 => first | (go_simp; done) | (go_simp; rfl))
            intro wv H1
            clear H cS fS
            have H := Aside0.mk (show St w U wv [blk b #[.slice A0 S3.l.length c0, .int .i64 S3.added, .map (some gw), .slice A3 S3.is.length c3, .slice A4 S3.level.length c4, .slice A5 S3.why.length c5, .slice A6 S3.act.length c6, .slice A7 S3.last.length c7, .int .i64 S3.bump, .slice A9 S3.trail.length c9, .slice A10' (S3.starts.length + 1) c10', .int .i64 S3.next, .int .i64 S3.vars, .bool S3.nothing] 50, ir A3 S3.is.length c3 S3.is, ir A4 S3.level.length c4 S3.level, ir A5 S3.why.length c5 S3.why, ir A6 S3.act.length c6 S3.act, ir A7 S3.last.length c7 S3.last, ir A9 S3.trail.length c9 S3.trail, ir A10' (S3.starts.length + 1) c10' (S3.starts ++ [(S3.trail.length : Int)]), rr A0 S3.l.length c0 (S3.l.map .own), wm gw (ownE S3.watch), Mt (spend m1).1, C] from H1)
            clear H1
            refine hK.out _ _ ?_
            clear hK K
            refine done_ (by kernel_rfl) ?_

            have h3 := st_shut (S := S3.push) ⟨A0, c0, gw, A3, c3, A4, c4, A5, c5, A6, c6, A7, c7, A9, c9, A10', c10'⟩ (by simpa only [openedG, cells, Sol.push, List.length_append, List.length_cons, List.length_nil, Nat.zero_add, List.cons_append, List.nil_append] using H.out)
            have H0 := Aside0.mk (show St w U wv [Mt (spend m1).1, sol b S3.push, C] from h3.perm (perm_idx [1, 0, 2] (by rfl) rfl))
            have HTS := Aside0.mk (show St w U wv [sol b S3.push, Mt (spend m1).1, C] from h3)
            have HNI2 := Aside0.mk (show S3.push.is.length ≤ 1000000000 from HNI.out)
            clear h3 H
            by_cases ht0 : t2 = 0
            · rw [if_pos ht0] at h
              by_cases hmp : S3.push.mayPut x
              case neg => rw [if_neg hmp] at h; cases h
              rw [if_pos hmp] at h
              dsimp only at h
              have HP := Aside0.mk (show -1000000000 ≤ x ∧ x ≤ 1000000000 ∧ x.natAbs < S3.push.is.length ∧ x.natAbs < S3.push.level.length ∧ x.natAbs < S3.push.why.length ∧ S3.push.trail.length ≤ 1000000000 from ⟨by have := hmp.2.2.2.2; omega, by have := hmp.2.2.2.2; omega, hmp.1, hmp.2.1, hmp.2.2.1, hmp.2.2.2.1⟩)
              have HR := Aside0.mk h
              have d8 : (t2 == 0) = true := beq_iff_eq.2 ht0
              clear h hmp ht0
              go_wp2_with (first
                | (go_at_call 37; (with_reducible refine (q_truthM HTS.out.sep HTR2.out HNI2.out).mono ?_); rintro e w' ⟨rfl, rfl⟩)
                | (go_at_call 40; (refine (St.does (L1 := [sol b S3.push]) (L2 := [Mt (spend m1).1, C]) (H0.out.perm (perm_idx [1, 0, 2] (by rfl) rfl)) (q_put x (-1) HP.out.1 HP.out.2.1 HP.out.2.2.1 HP.out.2.2.2.1 HP.out.2.2.2.2.1 HP.out.2.2.2.2.2)).mono ?_); rintro e w9_ ⟨L1', ⟨rfl, rfl⟩, H1⟩; clear H0; have H0 := Aside0.mk (show St w U w9_ [Mt (spend m1).1, sol b (S3.push.put x (-1)), C] from H1.perm (perm_idx [1, 0, 2] (by rfl) rfl)); clear H1))
              go_roundg k1
              case measure => have := HQ.out; omega
              case rel => exact ⟨f1, _, _, _, _, rfl, rfl, ⟨Nat.lt_of_succ_lt_succ HQ.out⟩, HR, H0⟩
            · rw [if_neg ht0] at h
              dsimp only at h
              have HR := Aside0.mk h
              have d8 : (t2 == 0) = false := beq_eq_false_iff_ne.2 ht0
              clear h ht0
              go_wp2_with (first
                | (go_at_call 37; (with_reducible refine (q_truthM HTS.out.sep HTR2.out HNI2.out).mono ?_); rintro e w' ⟨rfl, rfl⟩))
              go_roundg k1
              case measure => have := HQ.out; omega
              case rel => exact ⟨f1, _, _, _, _, rfl, rfl, ⟨Nat.lt_of_succ_lt_succ HQ.out⟩, HR, H0⟩
end Go.Proofs.Ytckimhhncpnkpaa.H
/- Solve. -/
namespace Go.Proofs.Ytckimhhncpnkpaa.H
set_option linter.unusedSimpArgs false
set_option linter.unusedVariables false
open Go.RowKit Go.Proofs.YtckimhhncpnkpaaW.PrintWords Go.Proofs.YtckimhhncpnkpaaW.PrintLast Go.Proofs.YtckimhhncpnkpaaW.PrintMore Go.Proofs.Ytckimhhncpnkpaa.Sep Go.Proofs.Ytckimhhncpnkpaa.Sat
theorem infoB : (Try.prog.info? 4).map (fun i => (i.zero, i.size, i.bytes)) = some (some (.bool false), 1, 1) := by kernel_rfl
/-- A row of truths. -/
def br (A : Option Addr) (n c : Nat) (xs : List Bool) : Ch := row 4 1 (.slice A n c) n (xs.map Value.bool)
theorem br_nil {w : World} {L : List Ch} {U : Nat → Prop} (h : Sep w L U) : Sep w (br none 0 0 [] :: L) U :=
  ⟨fun _ => False, ⟨World.ownsRow_nil w 0 4 1, fun k => ⟨False.elim, fun e => by simp [Value.ownBlock] at e⟩⟩, fun _ hk => hk.elim, h.mono (fun _ hk => ⟨hk, id⟩)⟩
theorem Rdc.blkB {W : World} {g : Nat} {y : Bool} {t : TypeId} (h : W.heap[g]? = some (.cells #[.bool y] t (0, 0))) : Rdc W (some ⟨g, 0, none⟩) 1 ([y].map Value.bool) := fun _ => ⟨_, rfl, fun j u hu => by
  rw [add_plain, blk_cell h]
  match j, hu with
  | 0, hu => exact hu⟩
theorem ev_bappend {P : Program} {ops : Array Oper} {o : Oper} {rest : List Oper} {a : Act} {Q : Exit → Act → World → Prop} {w0 W : World} {U : Nat → Prop} {L : List Ch} {i : Nat} (hgd : o.guard = none) (H : St w0 U W L) {A B : Option Addr} {n c m cB : Nat} {xs ys : List Bool} (hi : L[i]? = some (br A n c xs)) {s x : Operand} {t : TypeId} (ho : o.op = .call { callee := .builtin .append, args := #[s, x], argTypes := #[t, t] })
    (ht : P.underlying t = some (.slice 4)) (hinfo : (P.info? 4).map (fun i => (i.zero, i.size, i.bytes)) = some (some (.bool false), 1, 1)) (hs : a.eval s = .slice A n c) (hx : a.eval x = .slice B m cB) (hy : ys.length = m) (hr : Rdc W B m (ys.map Value.bool)) (hl : n + m ≤ 1000000000000)
    (h : ∀ A' c' w1, St w0 U w1 (L.set i (br A' (n + m) c' (xs ++ ys))) → wpList P ops Q rest (a.put o.dst (.slice A' (n + m) c')) w1) : wpList P ops Q (o :: rest) a W := by
  obtain ⟨v', w', h1, h2⟩ := H.append (P := P) hi t o.type (.bool false) 1 ht hinfo rfl (by decide) (by decide) B m cB (ys.map Value.bool) (by rw [List.length_map]; omega) hr (by intro u hu; obtain ⟨q, _, rfl⟩ := List.mem_map.1 hu; rfl) (by omega)
  obtain ⟨fp, ⟨h3, _⟩, _⟩ := h2.sat (i := i) (A := row 4 1 v' (n + m) (xs.map Value.bool ++ ys.map Value.bool)) (by
    have := (List.getElem?_eq_some_iff.1 hi).1
    rw [List.getElem?_set_self this])
  obtain ⟨A', c', rfl⟩ : ∃ A' c', v' = .slice A' (n + m) c' := by
    rcases h3.2 with ⟨rfl, hn⟩ | ⟨g, cap, cur, rfl, _⟩
    · exact ⟨none, 0, by rw [hn]⟩
    · exact ⟨_, _, rfl⟩
  refine Kd.event_run hgd (run_append ho hs hx h1) (h A' c' w' ?_)
  rw [br, List.map_append]
  exact h2
open Classical in
set_option maxHeartbeats 8000000 in
set_option maxRecDepth 100000 in
theorem q_Solve {w : World} {b : Nat} {S : Sol} {S' : Sol} {n f : Nat} {r : Int} {As : List Int} {seed : Int} {m m' : Option Mtr} {out : List Bool} {pm : Value} {Mt : Option Mtr → Ch} {A : Option Addr} {cA : Nat} {C : Ch} (hC : Lets C A As)
    (HS : Aside0 (∀ (w : World) (m : Option Mtr), Does Try.prog 43 #[pm, .int .i64 1] w [Mt m] fun e L => e = .returned (.bool (spend m).2) ∧ L = [Mt (spend m).1]))
    (h : Sol.solve S As seed f m = some (S', m', out, r)) (hlit : ∀ x ∈ As, isLit x = true) (hA : As.length ≤ 1000000000) (h5 : Five S n) (hn : n ≤ 1000000000) (hv : 0 ≤ S.vars ∧ S.vars ≤ 200000) :
    Does Try.prog 13 #[.pointer (some ⟨b, 0, none⟩), .slice A As.length cA, .int .i64 seed, pm] w [Mt m, sol b S, C] fun e L => ∃ B c, e = .returned (.tuple #[.slice B out.length c, .int .i64 r]) ∧ L = [br B out.length c out, Mt m', sol b S', C] := by
  have mixed : Try.prog.follows Departure.mixedOrders = true := by kernel_rfl
  refine does_intro fun U hs => ?_
  have H0 := Aside0.mk hs
  have HC := Aside0.mk hC
  have H5 := Aside0.mk (And.intro h5 hn)
  have HV0 := Aside0.mk hv
  have HAL := Aside0.mk hA
  have HLT := Aside0.mk hlit
  have HAN := Aside0.mk (show (As.any fun x => !isLit x) = false from by
    rw [List.any_eq_false]
    intro x hx
    rw [hlit x hx]
    decide)
  unfold Sol.solve at h
  obtain ⟨mv, hmv⟩ : ∃ mv, maxVar As S.vars = mv := ⟨_, rfl⟩
  rw [hmv] at h
  obtain ⟨S1, m1, r1, hrun⟩ : ∃ S1 m1 r1, run As seed mv.toNat f m (S.room mv) 0 60 = some (S1, m1, r1) := by
    match hq : run As seed mv.toNat f m (S.room mv) 0 60 with
    | none => rw [hq] at h; cases h
    | some (a1, a2, a3) => exact ⟨a1, a2, a3, rfl⟩
  rw [hrun] at h
  dsimp only at h
  by_cases hc : mv.toNat < S1.is.length ∧ S1.mayBack 0 ∧ S1.starts.length ≤ 1000000000 ∧ S1.is.length ≤ 1000000000
  case neg => rw [if_neg hc] at h; cases h
  rw [if_pos hc] at h
  have h7 := Option.some.inj h
  simp only [Prod.mk.injEq] at h7
  obtain ⟨rfl, rfl, hout, rfl⟩ := h7
  have hml := maxVar_le As S.vars
  rw [hmv] at hml
  have hmb := maxVar_bound As S.vars 200000 hv.2 (fun y hy => by have := hlit y hy; unfold isLit at this; have := of_decide_eq_true this; omega)
  rw [hmv] at hmb
  obtain ⟨vN, rfl⟩ : ∃ vN : Nat, mv = (vN : Int) := ⟨mv.toNat, by omega⟩
  rw [Int.toNat_natCast] at hrun hc hout
  have HMV := Aside0.mk (show 0 ≤ (vN : Int) ∧ (vN : Int) ≤ 1000000000 from ⟨by omega, by omega⟩)
  have HMX := Aside0.mk hmv
  have HRUN := Aside0.mk hrun
  have HVB := Aside0.mk (show vN ≤ 1000000000 by omega)
  have HIL := Aside0.mk hc.1
  have HBK := Aside0.mk (And.intro hc.2.1 hc.2.2.1)
  have HOUT := Aside0.mk hout.symm
  clear hs h5 hn hv hA hC hlit h hmv hrun hc hout hml hmb
  go_enter Try.func13, Try.ntmps13
  go_wp2_with (first
    | (go_at_call 23; (with_reducible refine (cf_Solve1 (fun x => !isLit x) A cA As _ ?sr HAL.out ?sc).mono ?_); (case sr => exact H0.out.lets (i := 2) rfl HC.out); (case sc => exact fun x hx W hb => (q_Solve1 x W).mono fun e w' h => ⟨h.1, h.2 ▸ Below.refl _ _⟩); rintro e w1_ ⟨rfl, hB⟩; have H1 := H0.out.quiet hB; clear H0 hB; have H0 := Aside0.mk (show St w U w1_ [Mt m, sol b S, C] from H1); clear H1; rw [HAN.out]; obtain ⟨r, h2⟩ := st_open (H0.out.perm (perm_idx [1, 0, 2] (by rfl) rfl)); obtain ⟨A0, c0, gw, A3, c3, A4, c4, A5, c5, A6, c6, A7, c7, A9, c9, A10, c10⟩ := r; have cS := h2.cell (i := 0) rfl; dsimp only [cells] at cS; clear h2))
  clear cS
  go_loopg [27, 10] (As.length + 1) (fun kq v27 v10 wr => ∃ i : Nat, v27 = .int .i64 (i : Int) ∧ v10 = .int .i64 (maxVar (As.take i) S.vars) ∧ Aside0 (i ≤ As.length) ∧ Aside0 (As.length - i < kq) ∧ Aside0 (St w U wr [Mt m, sol b S, C]))
  case atStart => exact ⟨0, rfl, rfl, ⟨Nat.zero_le _⟩, ⟨by omega⟩, H0⟩
  case round =>
    clear H0
    obtain ⟨i, rfl, rfl, HI, HQ, H0⟩ := hrel
    cases gk with
    | zero => exact absurd HQ.out (by have := HI.out; omega)
    | succ k1 =>
    by_cases hi : i < As.length
    case pos =>
      obtain ⟨x, hx⟩ : ∃ x, As[i]? = some x := ⟨_, List.getElem?_eq_getElem hi⟩
      obtain ⟨ad, rfl, zx⟩ := (H0.out.lets (i := 2) rfl HC.out) _ _ hx
      have hal := HAL.out
      have d1 : decide (i < As.length) = true := decide_eq_true hi
      have d2 : decide ((i : Int) < (As.length : Int)) = true := decide_eq_true (by omega)
      have p1 : (0 ≤ (i : Int)) = True := eq_true (by omega)
      have p2 : ((i : Int) < (As.length : Int)) = True := eq_true (by omega)
      have p3 : (i < As.length) = True := eq_true hi
      have p4 : wrap64 ((i : Int) + 1) = (i : Int) + 1 := by unfold wrap64; omega
      have hxl := HLT.out x (List.mem_of_getElem? hx)
      unfold isLit at hxl
      have hxl := of_decide_eq_true hxl
      obtain ⟨vn, hvn⟩ : ∃ vn, vn = x.natAbs := ⟨_, rfl⟩
      have HVN := Aside0.mk (show vab x = (vn : Int) by unfold vab; rw [hvn])
      have HXB := Aside0.mk (show -1000000000 ≤ x ∧ x ≤ 1000000000 by omega)
      have hst : maxVar (As.take (i + 1)) S.vars = max (maxVar (As.take i) S.vars) (vn : Int) := by
        rw [List.take_succ_eq_append_getElem hi]
        unfold maxVar
        rw [List.foldl_append, (List.getElem?_eq_some_iff.1 hx).2, hvn]
        rfl
      have HST := Aside0.mk hst
      have HI2 := Aside0.mk hi
      generalize maxVar (As.take i) S.vars = mc at *
      clear hi hx hal hxl hvn hst
      go_wp2_with (first
        | (go_at_call 26; (with_reducible refine (q_varN x vn HVN.out _ HXB.out.1 HXB.out.2).mono ?_); rintro e w' ⟨rfl, rfl⟩))
      all_goals
        go_roundg k1
        case measure => have := HI2.out; have := HQ.out; omega
        case rel => exact ⟨i + 1, by go_num, by rw [HST.out]; congr 1; omega, ⟨HI2.out⟩, ⟨by have := HI2.out; have := HQ.out; omega⟩, H0⟩
    case neg =>
      have hie : i = As.length := by have := HI.out; omega
      subst hie
      rw [List.take_length, HMX.out]
      have d1 : decide (As.length < As.length) = false := decide_eq_false (by omega)
      have d2 : decide ((As.length : Int) < (As.length : Int)) = false := decide_eq_false (by omega)
      clear hi HI HQ
      go_wp2_with (first
        | (go_at_call 27; (refine (St.does (L1 := [sol b S]) (L2 := [Mt m, C]) (H0.out.perm (perm_idx [1, 0, 2] (by rfl) rfl)) (q_room (vN : Int) HMV.out.1 HMV.out.2 H5.out.1 H5.out.2)).mono ?_); rintro e w3_ ⟨L1', ⟨rfl, rfl⟩, H1⟩; clear H0; have H0 := Aside0.mk (show St w U w3_ [Mt m, sol b (S.room (vN : Int)), C] from H1.perm (perm_idx [1, 0, 2] (by rfl) rfl)); clear H1)
        | (go_at_call 28; (refine (St.does (L1 := [Mt m, sol b (S.room (vN : Int)), C]) (L2 := []) H0.out (q_search (seed := seed) (vars := vN) HC.out HS HRUN.out HVB.out HAL.out)).mono ?_); rintro e w4_ ⟨L1', ⟨rfl, rfl⟩, H1⟩; clear H0; have H0 := Aside0.mk (show St w U w4_ [Mt m1, sol b S1, C] from H1); clear H1))
      have H9 := Aside0.mk (show St w U w4_ [br none 0 0 [], Mt m1, sol b S1, C] from ⟨H0.out.keeps, br_nil H0.out.sep, H0.out.up⟩)
      clear H0
      go_loopg [15, 14] (vN + 1) (fun kq v15 v14 wr => ∃ (i : Nat) (B : Option Addr) (c : Nat), v15 = .int .i64 ((i : Int) + 1) ∧ v14 = .slice B i c ∧ Aside0 (i ≤ vN) ∧ Aside0 (r1 ≠ 1 → i = 0) ∧ Aside0 (vN - i < kq) ∧ Aside0 (St w U wr [br B i c ((List.range i).map (fun v => decide (S1.is.getD (v + 1) 0 = 1))), Mt m1, sol b S1, C]))
      case atStart => exact ⟨0, none, 0, by first | rfl | go_num, rfl, ⟨Nat.zero_le _⟩, ⟨fun _ => rfl⟩, ⟨by omega⟩, H9⟩
      case round =>
        clear H9
        obtain ⟨i, B, c, rfl, rfl, HI, HR1, HQ, H0⟩ := hrel
        cases gk with
        | zero => exact absurd HQ.out (by have := HI.out; omega)
        | succ k2 =>
        by_cases hgo : i < vN ∧ r1 = 1
        case pos =>
          obtain ⟨y, hy⟩ : ∃ y, S1.is[i + 1]? = some y := ⟨_, List.getElem?_eq_getElem (by have := HIL.out; omega)⟩
          obtain ⟨r, h2⟩ := st_open (H0.out.perm (perm_idx [2, 0, 1, 3] (by rfl) rfl))
          obtain ⟨g3, e3⟩ := h2.ir_some (i := 1) rfl (by have := HIL.out; omega)
          obtain ⟨A0, c0, gw, A3, c3, A4, c4, A5, c5, A6, c6, A7, c7, A9, c9, A10, c10⟩ := r
          dsimp only at e3
          subst e3
          have cS := h2.cell (i := 0) rfl
          dsimp only [cells] at cS
          have zi := h2.ir_cell (i := 1) rfl hy
          have hvb := HVB.out
          have hil := HIL.out
          have hr1 : (r1 == 1) = true := beq_iff_eq.2 hgo.2
          have d1' : decide ((i : Int) + 1 ≤ (vN : Int)) = true := decide_eq_true (by omega)
          have d2' : decide (i + 1 ≤ vN) = true := decide_eq_true (by omega)
          have d3' : decide (i < vN) = true := decide_eq_true (by omega)
          have p1 : (0 ≤ (i : Int) + 1) = True := eq_true (by omega)
          have p2 : ((i : Int) + 1 < (S1.is.length : Int)) = True := eq_true (by omega)
          have p3 : (i + 1 < S1.is.length) = True := eq_true (by omega)
          have p4 : wrap64 ((i : Int) + 1 + 1) = (i : Int) + 1 + 1 := by unfold wrap64; omega
          have p5 : ((i : Int) + 1).toNat = i + 1 := by omega
          have HYE := Aside0.mk (show decide (S1.is.getD (i + 1) 0 = 1) = (y == 1) by rw [List.getD_eq_getElem?_getD, hy]; by_cases e : y = 1 <;> simp [e])
          have HGO := Aside0.mk hgo
          clear hgo hy h2 hvb hil
          go_wp2_with (first
            | ((with_reducible refine gate_dst (N := 63) rfl ?_); refine ev_lit rfl H0.out (n := 1) (cs := #[.bool (y == 1)]) (t := 4) ?hr ?_; (case hr => first | (go_simp; done) | (go_simp; rfl)); intro gt w5_ H1; clear H0; have H0 := Aside0.mk (show St w U w5_ [blk gt #[.bool (y == 1)] 4, br B i c ((List.range i).map (fun v => decide (S1.is.getD (v + 1) 0 = 1))), Mt m1, sol b S1, C] from H1); clear H1)
            | ((with_reducible refine gate_builtin (b := .append) (xs := #[.tmp 54, .tmp 63]) rfl ?_); refine ev_bappend rfl H0.out (i := 1) rfl (s := .tmp 54) (x := .tmp 63) rfl Try.underlying31 infoB rfl rfl (m := 1) (ys := [(y == 1)]) rfl (Rdc.blkB (H0.out.blk (i := 0) rfl)) (by have := HI.out; have := HVB.out; omega) ?_; intro B2 c2 w6_ H1; have H1 := H1.drop; clear H0 cS zi; have H0 := Aside0.mk (show St w U w6_ [br B2 (i + 1) c2 ((List.range i).map (fun v => decide (S1.is.getD (v + 1) 0 = 1)) ++ [(y == 1)]), Mt m1, sol b S1, C] from H1); clear H1))
          go_roundg k2
          case measure => have := HGO.out; have := HQ.out; omega
          case rel => exact ⟨i + 1, B2, c2, by first | go_num | (congr 1; omega) | (congr 1), rfl, ⟨HGO.out.1⟩, ⟨fun h => absurd HGO.out.2 h⟩, ⟨by have := HGO.out; have := HQ.out; omega⟩, ⟨by rw [List.range_succ, List.map_append]; show St _ _ _ (br _ _ _ (_ ++ [decide (S1.is.getD (i + 1) 0 = 1)]) :: _); rw [HYE.out]; exact H0.out⟩⟩
        case neg =>
          have hri : out = (List.range i).map (fun v => decide (S1.is.getD (v + 1) 0 = 1)) := by
            rw [HOUT.out]
            by_cases h1 : r1 = 1
            · rw [if_pos h1, show i = vN by have := HI.out; omega]
            · rw [if_neg h1, HR1.out h1]; rfl
          have hil : out.length = i := by rw [hri, List.length_map, List.length_range]
          have H1 := H0.out
          rw [← hri, ← hil] at H1
          have hvb := HVB.out
          have HGN := Aside0.mk hgo
          rw [← hil]
          clear H0
          have H0 := Aside0.mk H1
          clear H1 hri
          by_cases h1 : i < vN
          · have hr1 : (r1 == 1) = false := beq_eq_false_iff_ne.2 (fun e => hgo ⟨h1, e⟩)
            have d1' : decide ((i : Int) + 1 ≤ (vN : Int)) = true := decide_eq_true (by omega)
            have d2' : decide (i + 1 ≤ vN) = true := decide_eq_true (by omega)
            have d3' : decide (i < vN) = true := decide_eq_true (by omega)
            subst hil
            clear hgo h1 hvb
            go_wp2_with (first
              | (go_at_call 29; (refine (St.does (L1 := [sol b S1]) (L2 := [br B out.length c out, Mt m1, C]) (H0.out.perm (perm_idx [2, 0, 1, 3] (by rfl) rfl)) (q_back 0 HBK.out.1 HBK.out.2)).mono ?_); rintro e w7_ ⟨L1', ⟨rfl, rfl⟩, H1⟩; clear H0; have H0 := Aside0.mk (show St w U w7_ [br B out.length c out, Mt m1, sol b (S1.back 0), C] from H1.perm (perm_idx [1, 2, 0, 3] (by rfl) rfl)); clear H1))
            refine bodyPost_ret (results_tmp2 (by rfl) _ _ _) rfl ?_
            exact ⟨_, ⟨B, c, rfl, rfl⟩, H0.out⟩
          · have d1' : decide ((i : Int) + 1 ≤ (vN : Int)) = false := decide_eq_false (by omega)
            have d2' : decide (i + 1 ≤ vN) = false := decide_eq_false (by omega)
            have d3' : decide (i < vN) = false := decide_eq_false (by omega)
            subst hil
            clear hgo h1 hvb
            go_wp2_with (first
              | (go_at_call 29; (refine (St.does (L1 := [sol b S1]) (L2 := [br B out.length c out, Mt m1, C]) (H0.out.perm (perm_idx [2, 0, 1, 3] (by rfl) rfl)) (q_back 0 HBK.out.1 HBK.out.2)).mono ?_); rintro e w7_ ⟨L1', ⟨rfl, rfl⟩, H1⟩; clear H0; have H0 := Aside0.mk (show St w U w7_ [br B out.length c out, Mt m1, sol b (S1.back 0), C] from H1.perm (perm_idx [1, 2, 0, 3] (by rfl) rfl)); clear H1))
            refine bodyPost_ret (results_tmp2 (by rfl) _ _ _) rfl ?_
            exact ⟨_, ⟨B, c, rfl, rfl⟩, H0.out⟩
end Go.Proofs.Ytckimhhncpnkpaa.H
