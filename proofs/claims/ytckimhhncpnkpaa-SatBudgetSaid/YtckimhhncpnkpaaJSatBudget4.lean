/- Joined by wip/tools/shake.py for the claim of SatBudget: SatK, SatL, SatN, SatR, HSi, HSj, SepT, HSk, HSm. -/
import Derived.Test.YtckimhhncpnkpaaJSatBudget3
import Derived.Deep.QuietTactic
import Derived.BigQuiet
import Derived.WalkMore
/- look and follow keep what holds. -/
namespace Go.Proofs.Ytckimhhncpnkpaa.Sat
set_option linter.unusedVariables false
open Go.Proofs.Ytckimhhncpnkpaa.Sep
/-- Clauses that are the same but for the order of their literals. -/
def Alike (ls ls' : List (List Int)) : Prop := ls.length = ls'.length ∧ ∀ (k : Nat) (l l' : List Int), ls[k]? = some l → ls'[k]? = some l' → l.Perm l'
theorem Alike.refl (ls : List (List Int)) : Alike ls ls := ⟨rfl, fun k l l' h h' => by obtain rfl := Option.some.inj (h.symm.trans h'); exact List.Perm.refl _⟩
theorem Alike.get {ls ls' : List (List Int)} (h : Alike ls ls') {k : Nat} {l : List Int} (hk : ls[k]? = some l) : ∃ l', ls'[k]? = some l' ∧ l.Perm l' := by
  have h1 := get_lt hk
  have hl : k < ls'.length := by have := h.1; omega
  have h2 := List.getElem?_eq_getElem hl
  exact ⟨_, h2, h.2 k _ _ hk h2⟩
theorem Alike.symm {ls ls' : List (List Int)} (h : Alike ls ls') : Alike ls' ls := ⟨h.1.symm, fun k l l' a b => (h.2 k l' l b a).symm⟩
theorem Alike.trans {a b c : List (List Int)} (h : Alike a b) (g : Alike b c) : Alike a c := ⟨h.1.trans g.1, fun k l l' h1 h2 => by
  obtain ⟨m, hm, hp⟩ := h.get h1
  exact hp.trans (g.2 k m l' hm h2)⟩
theorem Alike.set {ls : List (List Int)} {k : Nat} {l l' : List Int} (hk : ls[k]? = some l) (hp : l.Perm l') : Alike ls (ls.set k l') := by
  refine ⟨by rw [List.length_set], fun j m m' h1 h2 => ?_⟩
  rw [List.getElem?_set] at h2
  split at h2
  · rename_i e
    subst e
    rw [if_pos (get_lt hk)] at h2
    obtain rfl := Option.some.inj h2
    obtain rfl := Option.some.inj (h1.symm.trans hk)
    exact hp
  · obtain rfl := Option.some.inj (h1.symm.trans h2)
    exact List.Perm.refl _
theorem csat_perm {a : Nat → Bool} {l l' : List Int} (h : l.Perm l') (hc : csat a l) : csat a l' := let ⟨y, hy, ht⟩ := hc; ⟨y, h.subset hy, ht⟩
theorem Alike.mem {ls ls' : List (List Int)} (h : Alike ls ls') {l : List Int} (hl : l ∈ ls) : ∃ l' ∈ ls', l.Perm l' := by
  obtain ⟨k, hk⟩ := List.mem_iff_getElem?.1 hl
  obtain ⟨l', h1, h2⟩ := h.get hk
  exact ⟨l', get_mem h1, h2⟩
theorem Cls.alike {S S' : Sol} {n : Nat} (h : Cls S n) (ha : Alike S.l S'.l) : Cls S' n := by
  have e : ∀ l ∈ S'.l, ∃ l0 ∈ S.l, l.Perm l0 := fun l hl => ha.symm.mem hl
  refine ⟨fun l hl => ?_, fun l hl y hy => ?_, fun l hl => ?_⟩
  · obtain ⟨l0, h0, hp⟩ := e l hl
    rw [hp.length_eq]; exact h.two l0 h0
  · obtain ⟨l0, h0, hp⟩ := e l hl
    exact h.lit l0 h0 y (hp.subset hy)
  · obtain ⟨l0, h0, hp⟩ := e l hl
    exact (hp.map _).nodup_iff.2 (h.dist l0 h0)
theorem Why.alike {S S' : Sol} {i : Nat} {x : Int} (h : Why S i x) (ha : Alike S.l S'.l) (hw : S'.why = S.why) (ht : S'.trail = S.trail) (hs : S'.starts = S.starts) : Why S' i x := by
  unfold Why
  rw [hw, ht, hs]
  rcases h with h | ⟨h1, l, h2, h3, h4⟩
  · exact .inl h
  · obtain ⟨l', h5, h6⟩ := ha.get h2
    exact .inr ⟨h1, l', h5, h6.subset h3, fun y hy hyx => h4 y (h6.symm.subset hy) hyx⟩
theorem Sem.alike {S S' : Sol} {Cs : List (List Int)} (h : Sem Cs S) (ha : Alike S.l S'.l) (ht : S'.trail = S.trail) (hs : S'.starts = S.starts) (hn : S'.nothing = S.nothing) : Sem Cs S' := by
  refine ⟨fun l hl a hf => ?_, fun i x => ?_, ?_⟩
  · obtain ⟨l0, h0, hp⟩ := ha.symm.mem hl
    exact csat_perm hp.symm (h.cl l0 h0 a hf)
  · rw [ht, hs]; exact h.zero i x
  · rw [hn]; exact h.no
/-- One state behind another one of the same levels. -/
structure Ext (S S' : Sol) : Prop where
  starts : S'.starts = S.starts
  nothing : S'.nothing = S.nothing
  vars : S'.vars = S.vars
  added : S'.added = S.added
  trail : ∃ T, S'.trail = S.trail ++ T
  alike : Alike S.l S'.l
  whyO : ∀ x ∈ S.trail, S'.why.getD x.natAbs 0 = S.why.getD x.natAbs 0
  whyN : ∀ (i : Nat) (x : Int), S'.trail[i]? = some x → S.trail.length ≤ i → 0 ≤ S'.why.getD x.natAbs 0
theorem Ext.quiet {S S' : Sol} (h1 : S'.starts = S.starts) (h2 : S'.nothing = S.nothing) (h3 : S'.vars = S.vars) (h4 : S'.added = S.added) (h5 : S'.trail = S.trail) (h6 : Alike S.l S'.l) (h7 : S'.why = S.why) : Ext S S' :=
  ⟨h1, h2, h3, h4, ⟨[], by rw [h5, List.append_nil]⟩, h6, fun x _ => by rw [h7], fun i x hx hi => by rw [h5] at hx; have := get_lt hx; omega⟩
theorem Ext.refl (S : Sol) : Ext S S := Ext.quiet rfl rfl rfl rfl rfl (Alike.refl _) rfl
theorem Ext.trans {a b c : Sol} (h : Ext a b) (g : Ext b c) : Ext a c := ⟨g.starts.trans h.starts, g.nothing.trans h.nothing, g.vars.trans h.vars, g.added.trans h.added, by
  obtain ⟨T, hT⟩ := h.trail
  obtain ⟨R, hR⟩ := g.trail
  exact ⟨T ++ R, by rw [hR, hT, List.append_assoc]⟩, h.alike.trans g.alike, fun x hx => by
  obtain ⟨T, hT⟩ := h.trail
  rw [g.whyO x (by rw [hT]; exact List.mem_append.2 (.inl hx)), h.whyO x hx], fun i x hx hi => by
  by_cases hb : i < b.trail.length
  · have h1 : b.trail[i]? = some x := by
      obtain ⟨R, hR⟩ := g.trail
      rw [hR, List.getElem?_append_left hb] at hx
      exact hx
    rw [g.whyO x (get_mem h1)]
    exact h.whyN i x h1 hi
  · exact g.whyN i x hx (by omega)⟩
theorem Ext.put {S : Sol} {n : Nat} {y k : Int} (h : Shape S n) (hy : y.natAbs < n) (h1 : y ∉ S.trail) (h2 : -y ∉ S.trail) (hk : 0 ≤ k) : Ext S (S.put y k) := by
  refine ⟨rfl, rfl, rfl, rfl, ⟨[y], rfl⟩, Alike.refl _, fun x hx => ?_, fun i x hx hi => ?_⟩
  · show (S.why.set y.natAbs k).getD x.natAbs 0 = _
    rw [getD_set (by rw [h.five.w]; exact hy), if_neg (h.far h1 h2 hx)]
  · rcases put_trail_cases hx with ⟨h3, _⟩ | ⟨_, rfl⟩
    · omega
    · rw [put_why (by rw [h.five.w]; exact hy)]; exact hk
theorem Ext.get {S S' : Sol} (h : Ext S S') {i : Nat} {x : Int} (hx : S.trail[i]? = some x) : S'.trail[i]? = some x := by
  obtain ⟨T, hT⟩ := h.trail
  rw [hT, List.getElem?_append_left (get_lt hx)]
  exact hx
theorem Ext.full {S S' : Sol} (h : Ext S S') {Cs : List (List Int)} (hf : Full Cs S) : Full Cs S' := fun a h1 h2 => hf a (fun l hl hv => by
  obtain ⟨l', hl', hp⟩ := h.alike.mem hl
  exact csat_perm hp.symm (h1 l' hl' (fun y hy => by rw [h.vars]; exact hv y (hp.symm.subset hy)))) (fun i x hx hl => h2 i x (h.get hx) (by rw [h.starts]; exact hl))
section
variable {S : Sol} {n : Nat}
theorem Shape.setL (h : Shape S n) (k : Nat) (l : List Int) : Shape (S.setL k l) n := ⟨⟨h.five.i, h.five.l, h.five.w, h.five.a, h.five.t⟩, h.pos, h.small, h.trv, h.nodup, h.isT, h.isF, h.last, h.sorted, h.stb, h.lev, h.next⟩
theorem Shape.wset (h : Shape S n) (x : Int) (r : List Int) : Shape (S.wset x r) n := ⟨⟨h.five.i, h.five.l, h.five.w, h.five.a, h.five.t⟩, h.pos, h.small, h.trv, h.nodup, h.isT, h.isF, h.last, h.sorted, h.stb, h.lev, h.next⟩
end
/-! ### swapping -/
theorem swp_perm {l : List Int} {i j : Nat} (hi : i < l.length) (hj : j < l.length) : l.Perm (swp l i j) := by
  unfold swp
  rw [show l.getD j 0 = l[j] from getD_some (List.getElem?_eq_getElem hj), show l.getD i 0 = l[i] from getD_some (List.getElem?_eq_getElem hi)]
  exact (List.set_set_perm hi hj).symm
theorem swp_get {l : List Int} {i j : Nat} (hi : i < l.length) (hj : j < l.length) (t : Nat) : (swp l i j).getD t 0 = if t = j then l.getD i 0 else if t = i then l.getD j 0 else l.getD t 0 := by
  unfold swp
  rw [getD_set (by rw [List.length_set]; exact hj)]
  by_cases h1 : j = t
  · rw [if_pos h1, if_pos h1.symm]
  · rw [if_neg h1, if_neg (fun e => h1 e.symm), getD_set hi]
    by_cases h2 : i = t
    · rw [if_pos h2, if_pos h2.symm]
    · rw [if_neg h2, if_neg (fun e => h2 e.symm)]
/-- Two places of a clause bear different variables. -/
theorem dist_get {l : List Int} (h : (l.map Int.natAbs).Nodup) {i j : Nat} (hi : i < l.length) (hj : j < l.length) (e : l.getD i 0 = l.getD j 0) : i = j := by
  have hp := List.pairwise_iff_getElem.1 h
  have e2 : l[i].natAbs = l[j].natAbs := by
    rw [show l[i] = l.getD i 0 from (getD_some (List.getElem?_eq_getElem hi)).symm, show l[j] = l.getD j 0 from (getD_some (List.getElem?_eq_getElem hj)).symm, e]
  rcases Nat.lt_trichotomy i j with h3 | h3 | h3
  · exact absurd (by rw [List.getElem_map, List.getElem_map]; exact e2) (hp i j (by simpa using hi) (by simpa using hj) h3)
  · exact h3
  · exact absurd (by rw [List.getElem_map, List.getElem_map]; exact e2.symm) (hp j i (by simpa using hj) (by simpa using hi) h3)
theorem getD_mem {l : List Int} {i : Nat} (h : i < l.length) : l.getD i 0 ∈ l := get_mem (getD_get h)
theorem mem_two {l : List Int} (h : 2 ≤ l.length) {y : Int} (hy : y ∈ l) : y = l.getD 0 0 ∨ y = l.getD 1 0 ∨ y ∈ l.drop 2 := by
  match l, h with
  | a :: b :: r, _ =>
    simp only [List.mem_cons] at hy
    exact hy.imp id (Or.imp id id)
/-! ### who looks at what -/
theorem Wat.len {ls : List (List Int)} {W : Int → List Int} (h : Wat ls W) (x : Int) : (W x).length ≤ ls.length := by
  have h1 : (W x).length ≤ ((List.range ls.length).map (fun k : Nat => (k : Int))).length := by
    refine (h.1 x).length_le_of_subset (fun k hk => ?_)
    obtain ⟨h0, l, hl, _⟩ := (h.2 x k).1 hk
    exact List.mem_map.2 ⟨k.toNat, List.mem_range.2 (get_lt hl), by omega⟩
  simpa using h1
theorem Wat.setL {ls : List (List Int)} {W : Int → List Int} (h : Wat ls W) {k : Nat} {l l' : List Int} (hk : ls[k]? = some l) (he : ∀ y, (l'.getD 0 0 = y ∨ l'.getD 1 0 = y) ↔ (l.getD 0 0 = y ∨ l.getD 1 0 = y)) : Wat (ls.set k l') W := by
  refine ⟨h.1, fun x j => (h.2 x j).trans (and_congr_right fun h0 => ?_)⟩
  constructor
  · rintro ⟨m, h1, h2⟩
    by_cases e : k = j.toNat
    · subst e
      obtain rfl := Option.some.inj (hk.symm.trans h1)
      exact ⟨l', by rw [List.getElem?_set_self (get_lt hk)], (he x).2 h2⟩
    · exact ⟨m, by rw [List.getElem?_set_ne e]; exact h1, h2⟩
  · rintro ⟨m, h1, h2⟩
    by_cases e : k = j.toNat
    · subst e
      rw [List.getElem?_set_self (get_lt hk)] at h1
      obtain rfl := Option.some.inj h1
      exact ⟨l, hk, (he x).1 h2⟩
    · rw [List.getElem?_set_ne e] at h1
      exact ⟨m, h1, h2⟩
/-- A clause looks elsewhere by its second literal. -/
theorem Wat.move {ls : List (List Int)} {W W' : Int → List Int} {x y : Int} {k : Nat} {l l' : List Int} (h : Wat ls W) (hk : ls[k]? = some l) (h0 : l'.getD 0 0 = l.getD 0 0) (h1 : l.getD 1 0 = x) (h1' : l'.getD 1 0 = y) (hxy : x ≠ y) (ho : l.getD 0 0 ≠ x) (hoy : l.getD 0 0 ≠ y)
    (hx : (W' x).Nodup ∧ ∀ j, j ∈ W' x ↔ j ≠ (k : Int) ∧ j ∈ W x) (hy : W' y = W y ++ [(k : Int)]) (hz : ∀ z, z ≠ x → z ≠ y → W' z = W z) : Wat (ls.set k l') W' := by
  have key : ∀ z j, z ≠ x → z ≠ y → (j ∈ W z ↔ 0 ≤ j ∧ ∃ m, (ls.set k l')[j.toNat]? = some m ∧ (m.getD 0 0 = z ∨ m.getD 1 0 = z)) := fun z j hzx hzy => by
    refine (h.2 z j).trans (and_congr_right fun hj => ?_)
    constructor
    · rintro ⟨m, g1, g2⟩
      by_cases e : k = j.toNat
      · subst e
        obtain rfl := Option.some.inj (hk.symm.trans g1)
        refine ⟨l', by rw [List.getElem?_set_self (get_lt hk)], .inl ?_⟩
        rw [h0]
        exact g2.resolve_right (fun e => hzx (by rw [← e, h1]))
      · exact ⟨m, by rw [List.getElem?_set_ne e]; exact g1, g2⟩
    · rintro ⟨m, g1, g2⟩
      by_cases e : k = j.toNat
      · subst e
        rw [List.getElem?_set_self (get_lt hk)] at g1
        obtain rfl := Option.some.inj g1
        refine ⟨l, hk, .inl ?_⟩
        rw [← h0]
        exact g2.resolve_right (fun e => hzy (by rw [← e, h1']))
      · rw [List.getElem?_set_ne e] at g1
        exact ⟨m, g1, g2⟩
  refine ⟨fun z => ?_, fun z j => ?_⟩
  · by_cases hzx : z = x
    · subst hzx; exact hx.1
    · by_cases hzy : z = y
      · subst hzy
        rw [hy, List.nodup_append]
        refine ⟨h.1 z, by simp, fun a ha b hb => ?_⟩
        rw [List.mem_singleton.1 hb]
        rintro rfl
        obtain ⟨_, m, g1, g2⟩ := (h.2 z _).1 ha
        rw [Int.toNat_natCast] at g1
        obtain rfl := Option.some.inj (hk.symm.trans g1)
        rcases g2 with g2 | g2
        · exact hoy g2
        · exact hxy (h1.symm.trans g2)
      · rw [hz z hzx hzy]; exact h.1 z
  · by_cases hzx : z = x
    · subst hzx
      rw [hx.2 j]
      constructor
      · rintro ⟨g1, g2⟩
        obtain ⟨g3, m, g4, g5⟩ := (h.2 z j).1 g2
        exact ⟨g3, m, by rw [List.getElem?_set_ne (by omega)]; exact g4, g5⟩
      · rintro ⟨g3, m, g4, g5⟩
        by_cases e : k = j.toNat
        · subst e
          rw [List.getElem?_set_self (get_lt hk)] at g4
          obtain rfl := Option.some.inj g4
          rcases g5 with g5 | g5
          · exact absurd (h0.symm.trans g5) ho
          · exact absurd (h1'.symm.trans g5).symm hxy
        · rw [List.getElem?_set_ne e] at g4
          exact ⟨by omega, (h.2 z j).2 ⟨g3, m, g4, g5⟩⟩
    · by_cases hzy : z = y
      · subst hzy
        rw [hy, List.mem_append, List.mem_singleton, h.2 z j]
        constructor
        · rintro (⟨g3, m, g4, g5⟩ | rfl)
          · by_cases e : k = j.toNat
            · exact ⟨g3, l', by rw [← e, List.getElem?_set_self (get_lt hk)], .inr h1'⟩
            · exact ⟨g3, m, by rw [List.getElem?_set_ne e]; exact g4, g5⟩
          · exact ⟨by omega, l', by rw [Int.toNat_natCast, List.getElem?_set_self (get_lt hk)], .inr h1'⟩
        · rintro ⟨g3, m, g4, g5⟩
          by_cases e : k = j.toNat
          · exact .inr (by omega)
          · rw [List.getElem?_set_ne e] at g4
            exact .inl ⟨g3, m, g4, g5⟩
      · rw [hz z hzx hzy]; exact key z j hzx hzy
end Go.Proofs.Ytckimhhncpnkpaa.Sat
/- look and follow: they answer, and keep what holds. -/
namespace Go.Proofs.Ytckimhhncpnkpaa.Sat
set_option linter.unusedVariables false
open Go.Proofs.Ytckimhhncpnkpaa.Sep
theorem find_spec {S : Sol} {n : Nat} (h : Shape S n) : ∀ (L : List Int) (j : Nat), (∀ y ∈ L, y ≠ 0 ∧ y.natAbs < n) →
    (S.find L j = some none ∧ ∀ y ∈ L, -y ∈ S.trail) ∨ (∃ i y, S.find L j = some (some (j + i)) ∧ L[i]? = some y ∧ -y ∉ S.trail)
  | [], j, _ => .inl ⟨rfl, by simp⟩
  | y :: r, j, hL => by
    obtain ⟨t, ht, hc⟩ := h.truth (hL y List.mem_cons_self).1 (hL y List.mem_cons_self).2
    unfold Sol.find
    rw [ht]
    dsimp only
    by_cases h1 : t = -1
    · rw [if_pos h1]
      have hy : -y ∈ S.trail := by
        rcases hc with ⟨e, _⟩ | ⟨_, e⟩ | ⟨e, _⟩
        · omega
        · exact e
        · omega
      rcases find_spec h r (j + 1) (fun z hz => hL z (List.mem_cons_of_mem _ hz)) with ⟨a, b⟩ | ⟨i, z, a, b, c⟩
      · refine .inl ⟨a, fun z hz => ?_⟩
        rcases List.mem_cons.1 hz with rfl | hz
        · exact hy
        · exact b z hz
      · exact .inr ⟨i + 1, z, by rw [a]; congr 2; omega, by rw [List.getElem?_cons_succ]; exact b, c⟩
    · rw [if_neg h1]
      refine .inr ⟨0, y, rfl, rfl, ?_⟩
      rcases hc with ⟨_, e⟩ | ⟨e, _⟩ | ⟨_, _, e⟩
      · exact fun e2 => h.not_both e e2
      · omega
      · exact e
/-- What holds ahead of each clause that looks at x, which is false now. -/
structure LookI (Cs : List (List Int)) (n p : Nat) (x : Int) (rest left : List Int) (S : Sol) : Prop where
  sh : Shape S n
  cl : Cls S n
  sem : Sem Cs S
  re : Reas S
  nx : S.next = (p : Int) + 1
  tp : S.trail[p]? = some (-x)
  st : ∀ s ∈ S.starts, s ≤ (p : Int)
  wat : Wat S.l (fun y => if y = x then left ++ rest else wget S.watch y)
  good : ∀ (k : Nat) (l : List Int), S.l[k]? = some l → Good S p l ∧ ((k : Int) ∉ rest → Good S (p + 1) l)
  big : S.l.length ≤ 1000000000
structure LookO (Cs : List (List Int)) (n p : Nat) (x : Int) (S S' : Sol) (r : Int) : Prop where
  sh : Shape S' n
  cl : Cls S' n
  sem : Sem Cs S'
  re : Reas S'
  nx : S'.next = (p : Int) + 1
  ext : Ext S S'
  wat : Wat S'.l (wget S'.watch)
  good : ∀ l ∈ S'.l, Good S' p l
  res : (r = -1 ∧ ∀ l ∈ S'.l, Good S' (p + 1) l) ∨ (0 ≤ r ∧ ∃ l, S'.l[r.toNat]? = some l ∧ x ∈ l ∧ ∀ y ∈ l, -y ∈ S'.trail)
theorem getD_swap2 {l : List Int} (h : 2 ≤ l.length) (y : Int) : ((swp l 0 1).getD 0 0 = y ∨ (swp l 0 1).getD 1 0 = y) ↔ (l.getD 0 0 = y ∨ l.getD 1 0 = y) := by
  rw [swp_get (by omega) (by omega), swp_get (by omega) (by omega), if_neg (by omega), if_pos rfl, if_pos rfl]
  exact Or.comm
theorem lvAt_p {S : Sol} {p : Nat} (h : ∀ s ∈ S.starts, s ≤ (p : Int)) : lvAt S.starts p = S.starts.length := lvAt_full h
/-- The one that is not false vouches for the false one. -/
theorem good_true {S : Sol} {n p : Nat} {x o : Int} (h : Shape S n) (tp : S.trail[p]? = some (-x)) (st : ∀ s ∈ S.starts, s ≤ (p : Int)) (ho : o ∈ S.trail) : Fine S (p + 1) o x ∧ Fine S (p + 1) x o := by
  refine ⟨fun i hi hx => absurd (get_mem hx) (fun e => h.not_both ho e), fun i hi hx => ?_⟩
  obtain rfl := h.inj hx tp rfl
  obtain ⟨j, hj⟩ := List.mem_iff_getElem?.1 ho
  exact ⟨j, hj, by rw [lvAt_p st]; exact lvAt_le _ _⟩
theorem look_spec {Cs : List (List Int)} {n p : Nat} {x : Int} : ∀ (rest : List Int) (S : Sol) (left : List Int), LookI Cs n p x rest left S → ∃ S' r, look x rest S left = some (S', r) ∧ LookO Cs n p x S S' r
  | [], S, left, h => by
    refine ⟨S.wset x left, -1, rfl, h.sh.wset x left, ⟨h.cl.two, h.cl.lit, h.cl.dist⟩, ⟨h.sem.cl, h.sem.zero, h.sem.no⟩, h.re, h.nx, Ext.quiet rfl rfl rfl rfl rfl (Alike.refl _) rfl, ?_, fun l hl => ?_, .inl ⟨rfl, fun l hl => ?_⟩⟩
    · have hw := h.wat
      rw [List.append_nil] at hw
      have e : (fun y => if y = x then left else wget S.watch y) = wget (S.wset x left).watch := by
        funext y
        show _ = wget (wput S.watch x left) y
        rw [wget_wput]
        by_cases e : y = x
        · rw [if_pos e, if_pos e.symm]
        · rw [if_neg e, if_neg (fun e2 => e e2.symm)]
      rw [e] at hw
      exact hw
    · obtain ⟨k, hk⟩ := List.mem_iff_getElem?.1 hl
      exact (h.good k l hk).1
    · obtain ⟨k, hk⟩ := List.mem_iff_getElem?.1 hl
      exact (h.good k l hk).2 (by simp)
  | k :: rest, S, left, h => by
    -- the clause
    have hkW : k ∈ (fun y => if y = x then left ++ k :: rest else wget S.watch y) x := by
      show k ∈ if x = x then left ++ k :: rest else _
      rw [if_pos rfl]; simp
    obtain ⟨hk0, l0, hl0, hx0⟩ := (h.wat.2 x k).1 hkW
    have hnod : (left ++ k :: rest).Nodup := by
      have := h.wat.1 x
      dsimp only at this
      rwa [if_pos rfl] at this
    have hmem0 : l0 ∈ S.l := get_mem hl0
    have h2 := h.cl.two l0 hmem0
    have hlen := h.wat.len x
    rw [if_pos rfl, List.length_append, List.length_cons] at hlen
    have hbig := h.big
    unfold look
    rw [hl0]
    dsimp only
    rw [if_neg (by omega)]
    -- its first two in order
    obtain ⟨l, hl, hp, h1x, hpair, hgoodl⟩ : ∃ l, (if l0.getD 0 0 = x then swp l0 0 1 else l0) = l ∧ l0.Perm l ∧ l.getD 1 0 = x ∧ (∀ y, (l.getD 0 0 = y ∨ l.getD 1 0 = y) ↔ (l0.getD 0 0 = y ∨ l0.getD 1 0 = y)) ∧ (∀ q, Good S q l0 → Good S q l) := by
      refine ⟨_, rfl, ?_⟩
      by_cases e : l0.getD 0 0 = x
      · rw [if_pos e]
        refine ⟨swp_perm (by omega) (by omega), by rw [swp_get (by omega) (by omega), if_pos rfl]; exact e, getD_swap2 h2, fun q hq => ?_⟩
        unfold Good
        rw [swp_get (by omega) (by omega), swp_get (by omega) (by omega), if_neg (by omega), if_pos rfl, if_pos rfl]
        exact ⟨hq.2, hq.1⟩
      · rw [if_neg e]
        exact ⟨List.Perm.refl _, hx0.resolve_left e, fun y => Iff.rfl, fun q hq => hq⟩
    rw [hl]
    have hlk : S.l[k.toNat]? = some l0 := hl0
    have hS1l : (S.setL k.toNat l).l = S.l.set k.toNat l := rfl
    have hal : Alike S.l (S.setL k.toNat l).l := Alike.set hlk hp
    have hll : 2 ≤ l.length := by rw [← hp.length_eq]; exact h2
    have hlit : ∀ y ∈ l, y ≠ 0 ∧ y.natAbs < n := fun y hy => h.cl.lit l0 hmem0 y (hp.symm.subset hy)
    have hdist : (l.map Int.natAbs).Nodup := (hp.map _).nodup_iff.1 (h.cl.dist l0 hmem0)
    have ho := hlit _ (getD_mem (i := 0) (by omega : 0 < l.length))
    have hox : l.getD 0 0 ≠ x := fun e => by
      have := dist_get hdist (i := 0) (j := 1) (by omega) (by omega) (e.trans h1x.symm)
      omega
    have hkl : (S.setL k.toNat l).l[k.toNat]? = some l := by rw [hS1l, List.getElem?_set_self (get_lt hlk)]
    have hsh1 := h.sh.setL k.toNat l
    have hxt : -x ∈ S.trail := get_mem h.tp
    have hnext : (k : Int) ∉ rest := fun e => by
      have := (List.nodup_append.1 hnod).2.1
      rw [List.nodup_cons] at this
      exact this.1 e
    -- what holds where nothing but the order was turned
    have hgood1 : ∀ (j : Nat) (m : List Int), (S.setL k.toNat l).l[j]? = some m → Good S p m ∧ ((j : Int) ∉ k :: rest → Good S (p + 1) m) := fun j m hm => by
      rw [hS1l] at hm
      by_cases e : k.toNat = j
      · subst e
        rw [List.getElem?_set_self (get_lt hlk)] at hm
        obtain rfl := Option.some.inj hm
        exact ⟨hgoodl p (h.good _ _ hlk).1, fun hn => absurd (show ((k.toNat : Nat) : Int) ∈ k :: rest by rw [Int.toNat_of_nonneg hk0]; exact List.mem_cons_self) hn⟩
      · rw [List.getElem?_set_ne e] at hm
        exact h.good j m hm
    have hwat1 : Wat (S.setL k.toNat l).l (fun y => if y = x then left ++ k :: rest else wget S.watch y) := h.wat.setL hlk hpair
    have base : ∀ left', Wat (S.setL k.toNat l).l (fun y => if y = x then left' ++ rest else wget S.watch y) → Good S (p + 1) l → LookI Cs n p x rest left' (S.setL k.toNat l) := fun left' hw hg =>
      ⟨hsh1, h.cl.alike hal, h.sem.alike hal rfl rfl rfl, fun i z hz => (h.re i z hz).alike hal rfl rfl rfl, h.nx, h.tp, h.st, hw, fun j m hm => ⟨(hgood1 j m hm).1, fun hj => by
        by_cases e : (j : Int) = k
        · have ej : k.toNat = j := by omega
          rw [← ej, hkl] at hm
          obtain rfl := Option.some.inj hm
          exact hg
        · exact (hgood1 j m hm).2 (fun hc => (List.mem_cons.1 hc).elim e hj)⟩, by rw [hS1l, List.length_set]; exact hbig⟩
    have ext1 : Ext S (S.setL k.toNat l) := Ext.quiet rfl rfl rfl rfl rfl hal rfl
    have hw2 : Wat (S.setL k.toNat l).l (fun y => if y = x then (left ++ [k]) ++ rest else wget S.watch y) := by rw [List.append_assoc]; exact hwat1
    obtain ⟨t, ht, hc⟩ := hsh1.truth ho.1 ho.2
    rw [ht]
    dsimp only
    have hfar : ∀ {T S' : Sol} {r : Int}, Ext S T → LookO Cs n p x T S' r → LookO Cs n p x S S' r := fun he g => ⟨g.sh, g.cl, g.sem, g.re, g.nx, he.trans g.ext, g.wat, g.good, g.res⟩
    by_cases h1 : t = 1
    · -- it is true
      rw [if_pos h1]
      have hot : l.getD 0 0 ∈ S.trail := by
        rcases hc with ⟨_, e⟩ | ⟨e, _⟩ | ⟨e, _⟩
        · exact e
        · omega
        · omega
      obtain ⟨g1, g2⟩ := good_true h.sh h.tp h.st hot
      have hI := base (left ++ [k]) hw2 ⟨by rw [h1x]; exact g1, by rw [h1x]; exact g2⟩
      obtain ⟨S', r, e, hO⟩ := look_spec rest _ _ hI
      exact ⟨S', r, e, hfar ext1 hO⟩
    · rw [if_neg h1]
      have hot : l.getD 0 0 ∉ S.trail := fun hin => by
        rcases hc with ⟨e, _⟩ | ⟨_, e⟩ | ⟨_, e, _⟩
        · exact h1 e
        · exact h.sh.not_both hin e
        · exact e hin
      -- the first is not false where that was worked off
      have hnf : ∀ i, i < p + 1 → S.trail[i]? ≠ some (-(l.getD 0 0)) := fun i hi hx => by
        have hip : i ≠ p := fun e => by
          subst e
          have := Option.some.inj (hx.symm.trans h.tp)
          exact hox (by omega)
        obtain ⟨j, hj, _⟩ := (hgoodl p (h.good _ _ hlk).1).1 i (by omega) hx
        rw [h1x] at hj
        exact h.sh.not_both (get_mem hj) hxt
      rcases find_spec hsh1 (l.drop 2) 2 (fun y hy => hlit y (List.mem_of_mem_drop hy)) with ⟨ef, hall⟩ | ⟨i, y, ef, hy, hyt⟩
      · rw [ef]
        dsimp only
        by_cases h3 : t = -1
        · -- nothing fits it
          rw [if_pos h3]
          refine ⟨_, k, rfl, hsh1.wset _ _, h.cl.alike hal, ?_, ?_, h.nx, Ext.quiet rfl rfl rfl rfl rfl hal rfl, ?_, fun m hm => ?_, .inr ⟨hk0, l, hkl, ?_, ?_⟩⟩
          · have := h.sem.alike hal rfl rfl rfl
            exact ⟨this.cl, this.zero, this.no⟩
          · exact fun i z hz => (h.re i z hz).alike hal rfl rfl rfl
          · have e : (fun y => if y = x then (left ++ [k]) ++ rest else wget S.watch y) = wget ((S.setL k.toNat l).wset x (left ++ [k] ++ rest)).watch := by
              funext y
              show _ = wget (wput S.watch x (left ++ [k] ++ rest)) y
              rw [wget_wput]
              by_cases e : y = x
              · rw [if_pos e, if_pos e.symm]
              · rw [if_neg e, if_neg (fun e2 => e e2.symm)]
            rw [e] at hw2
            exact hw2
          · obtain ⟨j, hj⟩ := List.mem_iff_getElem?.1 hm
            exact (hgood1 j m hj).1
          · rw [← h1x]; exact getD_mem (by omega)
          · intro z hz
            rcases mem_two hll hz with rfl | rfl | hz
            · rcases hc with ⟨e, _⟩ | ⟨_, e⟩ | ⟨e, _⟩
              · omega
              · exact e
              · omega
            · rw [h1x]; exact hxt
            · exact hall z hz
        · -- the first follows
          rw [if_neg h3]
          have hnt : l.getD 0 0 ∉ S.trail ∧ -(l.getD 0 0) ∉ S.trail := by
            rcases hc with ⟨e, _⟩ | ⟨e, _⟩ | ⟨_, e, e2⟩
            · exact absurd e h1
            · exact absurd e h3
            · exact ⟨e, e2⟩
          rw [if_pos (hsh1.mayPut ho.2)]
          have hothers : ∀ z ∈ l, z ≠ l.getD 0 0 → -z ∈ S.trail := fun z hz hne => by
            rcases mem_two hll hz with rfl | rfl | hz
            · exact absurd rfl hne
            · rw [h1x]; exact hxt
            · exact hall z hz
          have hsem1 := h.sem.alike (S' := S.setL k.toNat l) hal rfl rfl rfl
          have hre1 : Reas (S.setL k.toNat l) := fun i z hz => (h.re i z hz).alike hal rfl rfl rfl
          have hwhy : Why ((S.setL k.toNat l).put (l.getD 0 0) k) (S.setL k.toNat l).trail.length (l.getD 0 0) := by
            have e := put_why (S := S.setL k.toNat l) (y := l.getD 0 0) (k := k) (by rw [hsh1.five.w]; exact ho.2)
            unfold Why
            rw [e]
            refine .inr ⟨hk0, l, hkl, getD_mem (by omega), fun z hz hne => ?_⟩
            obtain ⟨j, hj⟩ := List.mem_iff_getElem?.1 (hothers z hz hne)
            exact ⟨j, get_lt hj, by rw [put_trail_lt (S := S.setL k.toNat l) (get_lt hj)]; exact hj⟩
          have hplen : p < S.trail.length := get_lt h.tp
          have hI : LookI Cs n p x rest (left ++ [k]) ((S.setL k.toNat l).put (l.getD 0 0) k) := by
            refine ⟨hsh1.put ho.1 ho.2 hnt.1 hnt.2, ⟨(h.cl.alike hal).two, (h.cl.alike hal).lit, (h.cl.alike hal).dist⟩, ?_, hre1.put hsh1 ho.1 ho.2 hnt.1 hnt.2 hwhy, h.nx, ?_, h.st, hw2, fun j m hm => ?_, by show (S.l.set k.toNat l).length ≤ _; rw [List.length_set]; exact hbig⟩
            · refine hsem1.put hsh1 (fun hst a ha => ?_)
              obtain ⟨z, hz, hzt⟩ := hsem1.cl l (get_mem hkl) a ha
              by_cases e : z = l.getD 0 0
              · rw [← e]; exact hzt
              · exfalso
                obtain ⟨j, hj⟩ := List.mem_iff_getElem?.1 (hothers z hz e)
                have hz0 := hsem1.zero j (-z) hj (by show lvAt S.starts j = 0; rw [show S.starts = [] from hst]; rfl) a ha
                rw [tv_neg a (hlit z hz).1, hzt] at hz0
                exact absurd hz0 (by decide)
            · rw [put_trail_lt (S := S.setL k.toNat l) hplen]; exact h.tp
            · have hm1 : (S.setL k.toNat l).l[j]? = some m := hm
              refine ⟨((hgood1 j m hm1).1).put (S := S.setL k.toNat l) (Nat.le_of_lt hplen), fun hj => ?_⟩
              by_cases e : (j : Int) = k
              · have ej : k.toNat = j := by omega
                rw [← ej, hkl] at hm1
                obtain rfl := Option.some.inj hm1
                have hput : l.getD 0 0 ∈ ((S.setL k.toNat l).put (l.getD 0 0) k).trail := put_mem.2 (.inr rfl)
                obtain ⟨g1, g2⟩ := good_true (p := p) (x := x) (hsh1.put (k := k) ho.1 ho.2 hnt.1 hnt.2) (by rw [put_trail_lt (S := S.setL k.toNat l) hplen]; exact h.tp) h.st hput
                exact ⟨by rw [h1x]; exact g1, by rw [h1x]; exact g2⟩
              · exact ((hgood1 j m hm1).2 (fun hc => (List.mem_cons.1 hc).elim e hj)).put (S := S.setL k.toNat l) hplen
          obtain ⟨S', r, e, hO⟩ := look_spec rest _ _ hI
          exact ⟨S', r, e, hfar (ext1.trans (Ext.put hsh1 ho.2 hnt.1 hnt.2 hk0)) hO⟩
      · rw [ef]
        dsimp only
        -- it looks at another one
        rw [List.getElem?_drop] at hy
        have hij : 2 + i < l.length := get_lt hy
        have hy2 : l.getD (2 + i) 0 = y := getD_some hy
        have hyl : y ∈ l := get_mem hy
        have s0 : (swp l 1 (2 + i)).getD 0 0 = l.getD 0 0 := by rw [swp_get (by omega) hij, if_neg (by omega), if_neg (by omega)]
        have s1 : (swp l 1 (2 + i)).getD 1 0 = y := by rw [swp_get (by omega) hij, if_neg (by omega), if_pos rfl, hy2]
        rw [s1]
        have hyx : y ≠ x := fun e => hyt (by rw [e]; exact hxt)
        have hoy : l.getD 0 0 ≠ y := fun e => by
          have := dist_get hdist (i := 0) (j := 2 + i) (by omega) hij (e.trans hy2.symm)
          omega
        have hwl := hwat1.len y
        rw [if_neg hyx, hS1l, List.length_set] at hwl
        have e0 : (S.setL k.toNat l).watch = S.watch := rfl
        rw [e0, if_neg (by omega)]
        have hp2 := swp_perm (l := l) (i := 1) (j := 2 + i) (by omega) hij
        have hal2 : Alike (S.setL k.toNat l).l ((S.setL k.toNat l).setL k.toNat (swp l 1 (2 + i))).l := Alike.set hkl hp2
        have hal3 := hal.trans hal2
        have hset : ((S.setL k.toNat l).setL k.toNat (swp l 1 (2 + i))).l = (S.setL k.toNat l).l.set k.toNat (swp l 1 (2 + i)) := rfl
        have hW : Wat (((S.setL k.toNat l).setL k.toNat (swp l 1 (2 + i))).wset y (wget S.watch y ++ [k])).l (fun z => if z = x then left ++ rest else wget (((S.setL k.toNat l).setL k.toNat (swp l 1 (2 + i))).wset y (wget S.watch y ++ [k])).watch z) := by
          have hk1 : ((k.toNat : Nat) : Int) = k := Int.toNat_of_nonneg hk0
          refine Wat.move (x := x) (y := y) (k := k.toNat) (l := l) (l' := swp l 1 (2 + i)) hwat1 hkl s0 h1x s1 (fun e => hyx e.symm) hox hoy ⟨?_, fun j => ?_⟩ ?_ ?_
          · rw [if_pos rfl]
            exact hnod.sublist (List.Sublist.append (List.Sublist.refl _) (List.sublist_cons_self _ _))
          · rw [if_pos rfl, if_pos rfl, hk1, List.mem_append, List.mem_append, List.mem_cons]
            have hd := List.nodup_append.1 hnod
            constructor
            · rintro (hj | hj)
              · exact ⟨fun e => hd.2.2 j hj k List.mem_cons_self e, .inl hj⟩
              · exact ⟨fun e => (List.nodup_cons.1 hd.2.1).1 (e ▸ hj), .inr (.inr hj)⟩
            · rintro ⟨hne, hj | hj | hj⟩
              · exact .inl hj
              · exact absurd hj hne
              · exact .inr hj
          · rw [if_neg hyx, if_neg hyx, hk1]
            show wget (wput S.watch y _) y = _
            rw [wget_wput, if_pos rfl]
          · intro z hzx hzy
            rw [if_neg hzx, if_neg hzx]
            show wget (wput S.watch y _) z = _
            rw [wget_wput, if_neg (fun e => hzy e.symm)]
        have hI : LookI Cs n p x rest left (((S.setL k.toNat l).setL k.toNat (swp l 1 (2 + i))).wset y (wget S.watch y ++ [k])) := by
          refine ⟨(hsh1.setL _ _).wset _ _, h.cl.alike hal3, ?_, fun i z hz => (h.re i z hz).alike hal3 rfl rfl rfl, h.nx, h.tp, h.st, hW, fun j m hm => ?_, by show ((S.l.set k.toNat l).set k.toNat _).length ≤ _; rw [List.length_set, List.length_set]; exact hbig⟩
          · have := h.sem.alike (S' := (S.setL k.toNat l).setL k.toNat (swp l 1 (2 + i))) hal3 rfl rfl rfl
            exact ⟨this.cl, this.zero, this.no⟩
          · by_cases e : k.toNat = j
            · subst e
              have hm2 : ((S.setL k.toNat l).l.set k.toNat (swp l 1 (2 + i)))[k.toNat]? = some m := hm
              rw [List.getElem?_set_self (get_lt hkl)] at hm2
              obtain rfl := Option.some.inj hm2
              have g : Good S (p + 1) (swp l 1 (2 + i)) := by
                unfold Good
                rw [s0, s1]
                exact ⟨fun i hi hx => absurd hx (hnf i hi), fun i hi hx => absurd (get_mem hx) hyt⟩
              exact ⟨⟨fun i hi hx => g.1 i (by omega) hx, fun i hi hx => g.2 i (by omega) hx⟩, fun _ => g⟩
            · have hm2 : ((S.setL k.toNat l).l.set k.toNat (swp l 1 (2 + i)))[j]? = some m := hm
              rw [List.getElem?_set_ne e] at hm2
              exact ⟨(hgood1 j m hm2).1, fun hj => (hgood1 j m hm2).2 (fun hc => (List.mem_cons.1 hc).elim (fun e2 => e (by omega)) hj)⟩
        obtain ⟨S', r, e, hO⟩ := look_spec rest _ _ hI
        exact ⟨S', r, e, hfar (ext1.trans (Ext.quiet (S' := ((S.setL k.toNat l).setL k.toNat (swp l 1 (2 + i))).wset y (wget S.watch y ++ [k])) rfl rfl rfl rfl rfl hal2 rfl)) hO⟩
end Go.Proofs.Ytckimhhncpnkpaa.Sat
/- follow. -/
namespace Go.Proofs.Ytckimhhncpnkpaa.Sat
set_option linter.unusedVariables false
open Go.Proofs.Ytckimhhncpnkpaa.Sep
/-- What holds of a solver, worked off up to p. -/
structure Inv (Cs : List (List Int)) (n p : Nat) (S : Sol) : Prop where
  sh : Shape S n
  cl : Cls S n
  sem : Sem Cs S
  re : Reas S
  wat : Wat S.l (wget S.watch)
  good : ∀ l ∈ S.l, Good S p l
  st : ∀ s ∈ S.starts, s ≤ (p : Int)
  ple : p ≤ S.trail.length
/-- A clause that nothing fits any more. -/
structure Conf (p : Nat) (S : Sol) (r : Int) : Prop where
  r0 : 0 ≤ r
  pt : p < S.trail.length
  nx : S.next = (p : Int) + 1
  l : ∃ l, S.l[r.toNat]? = some l ∧ (∃ y ∈ l, S.trail[p]? = some (-y)) ∧ ∀ y ∈ l, -y ∈ S.trail
theorem follow_spec {Cs : List (List Int)} {n : Nat} : ∀ (f : Nat) (S : Sol), n < f + S.next.toNat → Inv Cs n S.next.toNat S → S.l.length ≤ 1000000000 →
    ∃ S' r, S.follow f = some (S', r) ∧ Ext S S' ∧ ((r = -1 ∧ Inv Cs n S'.next.toNat S' ∧ S'.next = (S'.trail.length : Int)) ∨ ∃ p : Nat, S.next ≤ (p : Int) ∧ Inv Cs n p S' ∧ Conf p S' r)
  | 0, S, hf, h, _ => by
    have := h.sh.len
    have := h.ple
    omega
  | f + 1, S, hf, h, hb => by
    have hnx := h.sh.next
    unfold Sol.follow
    rw [if_neg (by omega)]
    match hy : S.trail[S.next.toNat]? with
    | none =>
      dsimp only
      refine ⟨S, -1, rfl, Ext.refl S, .inl ⟨rfl, h, ?_⟩⟩
      have := List.getElem?_eq_none_iff.1 hy
      omega
    | some y =>
      dsimp only
      have hyt := get_mem hy
      obtain ⟨hy0, hyn⟩ := h.sh.trv y hyt
      have hlt := get_lt hy
      have e1 : ((S.next.toNat : Nat) : Int) = S.next := Int.toNat_of_nonneg hnx.1
      have hI : LookI Cs n S.next.toNat (-y) (wget S.watch (-y)) [] { S with next := S.next + 1 } := by
        refine ⟨⟨⟨h.sh.five.i, h.sh.five.l, h.sh.five.w, h.sh.five.a, h.sh.five.t⟩, h.sh.pos, h.sh.small, h.sh.trv, h.sh.nodup, h.sh.isT, h.sh.isF, h.sh.last, h.sh.sorted, h.sh.stb, h.sh.lev, ⟨by show 0 ≤ S.next + 1; omega, by show S.next + 1 ≤ (S.trail.length : Int); omega⟩⟩, ⟨h.cl.two, h.cl.lit, h.cl.dist⟩, ⟨h.sem.cl, h.sem.zero, h.sem.no⟩, h.re, by rw [e1], by rw [Int.neg_neg]; exact hy, h.st, ?_, fun k l hl => ⟨h.good l (get_mem hl), fun hk => ?_⟩, hb⟩
        · have e : (fun z => if z = -y then [] ++ wget S.watch (-y) else wget S.watch z) = wget S.watch := by
            funext z
            split
            · rename_i e; rw [e]; rfl
            · rfl
          rw [e]
          exact h.wat
        · -- who does not look at it has nothing new
          have hno : l.getD 0 0 ≠ -y ∧ l.getD 1 0 ≠ -y := by
            have : ¬ (l.getD 0 0 = -y ∨ l.getD 1 0 = -y) := fun e => hk ((h.wat.2 (-y) (k : Int)).2 ⟨by omega, l, by rw [Int.toNat_natCast]; exact hl, e⟩)
            exact not_or.1 this
          have hg := h.good l (get_mem hl)
          refine ⟨fun i hi hx => ?_, fun i hi hx => ?_⟩
          · by_cases e : i = S.next.toNat
            · subst e
              have := Option.some.inj (hy.symm.trans hx)
              exact (hno.1 (by omega)).elim
            · exact hg.1 i (by omega) hx
          · by_cases e : i = S.next.toNat
            · subst e
              have := Option.some.inj (hy.symm.trans hx)
              exact (hno.2 (by omega)).elim
            · exact hg.2 i (by omega) hx
      obtain ⟨S2, r, e, hO⟩ := look_spec (wget S.watch (-y)) _ [] hI
      rw [e]
      dsimp only
      have hext : Ext S S2 := ⟨hO.ext.starts, hO.ext.nothing, hO.ext.vars, hO.ext.added, hO.ext.trail, hO.ext.alike, hO.ext.whyO, hO.ext.whyN⟩
      have hn2 : S2.next.toNat = S.next.toNat + 1 := by have := hO.nx; omega
      have hle : S.trail.length ≤ S2.trail.length := by
        obtain ⟨T, hT⟩ := hext.trail
        rw [hT, List.length_append]; omega
      have hst2 : ∀ s ∈ S2.starts, s ≤ ((S.next.toNat : Nat) : Int) := by rw [hext.starts]; exact h.st
      by_cases hr : 0 ≤ r
      · rw [if_pos hr]
        obtain ⟨h1, h2⟩ | ⟨h1, l, h2, h3, h4⟩ := hO.res
        · omega
        · exact ⟨S2, r, rfl, hext, .inr ⟨S.next.toNat, by omega, ⟨hO.sh, hO.cl, hO.sem, hO.re, hO.wat, hO.good, hst2, by omega⟩, h1, by omega, hO.nx, l, h2, ⟨-y, h3, by rw [Int.neg_neg]; exact hext.get hy⟩, h4⟩⟩
      · rw [if_neg hr]
        obtain ⟨h1, h2⟩ | ⟨h1, _⟩ := hO.res
        · obtain ⟨S', r', e', x', hh⟩ := follow_spec f S2 (by omega) ⟨hO.sh, hO.cl, hO.sem, hO.re, hO.wat, by rw [hn2]; exact h2, fun s hs => by have := hst2 s hs; omega, by omega⟩ (by rw [← hext.alike.1]; exact hb)
          refine ⟨S', r', e', hext.trans x', hh.imp id (fun ⟨p, a, b⟩ => ⟨p, by have := hO.nx; omega, b⟩)⟩
        · omega
end Go.Proofs.Ytckimhhncpnkpaa.Sat
/- learn: it answers a clause that follows. -/
namespace Go.Proofs.Ytckimhhncpnkpaa.Sat
set_option linter.unusedVariables false
open Go.Proofs.Ytckimhhncpnkpaa.Sep
/-- All but what was in conflicts is as it was. -/
structure Same (S S' : Sol) : Prop where
  eq : S' = { S with act := S'.act, bump := S'.bump }
  len : S'.act.length = S.act.length
theorem Same.refl (S : Sol) : Same S S := ⟨rfl, rfl⟩
theorem Same.trans {a b c : Sol} (h : Same a b) (g : Same b c) : Same a c := ⟨by rw [g.eq, h.eq], g.len.trans h.len⟩
theorem Same.touch (S : Sol) (v : Nat) : Same S (S.touch v) := by
  unfold Sol.touch
  split
  · exact ⟨rfl, by show ((S.act.set v _).map shr30).length = _; rw [List.length_map, List.length_set]⟩
  · exact ⟨rfl, by show (S.act.set v _).length = _; rw [List.length_set]⟩
section
variable {S S' : Sol}
theorem Same.l (h : Same S S') : S'.l = S.l := by rw [h.eq]
theorem Same.is (h : Same S S') : S'.is = S.is := by rw [h.eq]
theorem Same.level (h : Same S S') : S'.level = S.level := by rw [h.eq]
theorem Same.why (h : Same S S') : S'.why = S.why := by rw [h.eq]
theorem Same.trail (h : Same S S') : S'.trail = S.trail := by rw [h.eq]
theorem Same.starts (h : Same S S') : S'.starts = S.starts := by rw [h.eq]
theorem Same.truth (h : Same S S') (x : Int) : S'.truth x = S.truth x := by unfold Sol.truth; rw [h.is]
theorem Same.shape {n : Nat} (h : Same S S') (g : Shape S n) : Shape S' n := by
  have e := h.eq
  have hl := h.len
  generalize S'.act = A at *
  generalize S'.bump = B at *
  subst e
  exact ⟨⟨g.five.i, g.five.l, g.five.w, hl.trans g.five.a, g.five.t⟩, g.pos, g.small, g.trv, g.nodup, g.isT, g.isF, g.last, g.sorted, g.stb, g.lev, g.next⟩
theorem Same.inv {Cs : List (List Int)} {n p : Nat} (h : Same S S') (g : Inv Cs n p S) : Inv Cs n p S' := by
  have hs := h.shape g.sh
  have e := h.eq
  generalize S'.act = A at *
  generalize S'.bump = B at *
  subst e
  exact ⟨hs, ⟨g.cl.two, g.cl.lit, g.cl.dist⟩, ⟨g.sem.cl, g.sem.zero, g.sem.no⟩, g.re, g.wat, g.good, g.st, g.ple⟩
end
/-! ### counting -/
theorem countP_one {α : Type} [BEq α] [LawfulBEq α] {p q : α → Bool} {z : α} : ∀ {l : List α}, l.Nodup → z ∈ l → p z = false → (∀ j ∈ l, q j = (p j || j == z)) → l.countP q = l.countP p + 1
  | [], _, h, _, _ => by simp at h
  | a :: r, hn, hz, hp, hq => by
    rw [List.nodup_cons] at hn
    rw [List.countP_cons, List.countP_cons, hq a List.mem_cons_self]
    by_cases e : a = z
    · subst e
      have : r.countP q = r.countP p := List.countP_congr (fun j hj => by
        rw [hq j (List.mem_cons_of_mem _ hj)]
        have : (j == a) = false := beq_eq_false_iff_ne.2 (fun e => hn.1 (e ▸ hj))
        rw [this, Bool.or_false])
      rw [this, hp]
      simp
    · have := countP_one hn.2 ((List.mem_cons.1 hz).resolve_left (fun h => e h.symm)) hp (fun j hj => hq j (List.mem_cons_of_mem _ hj))
      rw [this]
      have : (a == z) = false := beq_eq_false_iff_ne.2 e
      rw [this, Bool.or_false]
      omega
theorem countP_cut {p : Nat → Bool} {m : Nat} (hm : p m = true) : ∀ (nn : Nat), m < nn → (∀ j, m < j → j < nn → p j = false) → (List.range nn).countP p = (List.range m).countP p + 1
  | 0, h, _ => by omega
  | k + 1, h, hz => by
    rw [List.range_succ, List.countP_append, List.countP_singleton]
    by_cases e : m = k
    · subst e; rw [if_pos hm]
    · rw [countP_cut hm k (by omega) (fun j h1 h2 => hz j h1 (by omega)), hz k (by omega) (by omega)]; simp
/-! ### the clause that is learned, in the making -/
def isOpen (S : Sol) (seen : List Int) (j : Nat) : Bool := decide (lvAt S.starts j = S.starts.length) && decide (((S.trail.getD j 0).natAbs : Int) ∈ seen)
structure LI (S : Sol) (n nn : Nat) (R : Lrn) (rest : List Int) : Prop where
  same : Same S R.S
  out : R.out = 0 :: rest
  low : ∀ y ∈ rest, ∃ j, S.trail[j]? = some (-y) ∧ 1 ≤ lvAt S.starts j ∧ lvAt S.starts j < S.starts.length
  seen : ∀ v ∈ R.seen, ∃ j x, S.trail[j]? = some x ∧ v = (x.natAbs : Int) ∧ 1 ≤ lvAt S.starts j ∧ (lvAt S.starts j < S.starts.length → -x ∈ rest)
  rs : ∀ y ∈ rest, (y.natAbs : Int) ∈ R.seen
  dist : (rest.map Int.natAbs).Nodup
  op : R.op = ((List.range nn).countP (isOpen S R.seen) : Nat)
theorem nodup_bound {l : List Int} {n : Nat} (h : (l.map Int.natAbs).Nodup) (hb : ∀ y ∈ l, y.natAbs < n) : l.length ≤ n := by
  have h1 : (l.map Int.natAbs).length ≤ (List.range n).length := by
    refine h.length_le_of_subset (fun v hv => ?_)
    obtain ⟨x, hx, rfl⟩ := List.mem_map.1 hv
    exact List.mem_range.2 (hb x hx)
  simpa using h1
theorem lits_spec {S : Sol} {n nn : Nat} (h : Shape S n) (hnn : nn ≤ S.trail.length) (xr : Int) : ∀ (L : List Int) (R : Lrn) (rest : List Int), LI S n nn R rest →
    (∀ y ∈ L, y ≠ 0 ∧ y.natAbs < n ∧ ((y = xr ∧ y ∈ S.trail) ∨ ∃ j, j < nn ∧ S.trail[j]? = some (-y))) →
    ∃ R' rest', lits S.starts.length L R = some R' ∧ LI S n nn R' rest' ∧ (∀ v ∈ R.seen, v ∈ R'.seen) ∧ (∀ y ∈ rest, y ∈ rest') ∧
      (∀ y ∈ L, y ≠ xr → (y.natAbs : Int) ∈ R'.seen ∨ ∃ j, S.trail[j]? = some (-y) ∧ lvAt S.starts j = 0)
  | [], R, rest, hR, _ => ⟨R, rest, rfl, hR, fun _ h => h, fun _ h => h, by simp⟩
  | y :: r, R, rest, hR, hL => by
    obtain ⟨hy0, hyn, hy⟩ := hL y List.mem_cons_self
    have hr := fun z hz => hL z (List.mem_cons_of_mem y hz)
    unfold lits
    have hsm := h.small
    rw [if_neg (by omega)]
    by_cases h1 : (y.natAbs : Int) ∈ R.seen
    · rw [if_pos h1]
      obtain ⟨R', rest', e, a, b, c, d⟩ := lits_spec h hnn xr r R rest hR hr
      refine ⟨R', rest', e, a, b, c, fun z hz hzx => ?_⟩
      rcases List.mem_cons.1 hz with rfl | hz
      · exact .inl (b _ h1)
      · exact d z hz hzx
    · rw [if_neg h1]
      -- the place of its variable
      obtain ⟨j, x, hj, hx⟩ : ∃ (j : Nat) (x : Int), S.trail[j]? = some x ∧ x.natAbs = y.natAbs := by
        rcases hy with ⟨_, hy⟩ | ⟨j, _, hj⟩
        · obtain ⟨j, hj⟩ := List.mem_iff_getElem?.1 hy
          exact ⟨j, y, hj, rfl⟩
        · exact ⟨j, -y, hj, Int.natAbs_neg y⟩
      have hlev : R.S.level[y.natAbs]? = some (lvAt S.starts j : Int) := by
        rw [hR.same.level, getD_get (d := 0) (by rw [h.five.l]; exact hyn), ← hx, h.lev j x hj]
      rw [hlev]
      dsimp only
      by_cases h2 : (lvAt S.starts j : Int) = 0
      · rw [if_pos h2]
        obtain ⟨R', rest', e, a, b, c, d⟩ := lits_spec h hnn xr r R rest hR hr
        refine ⟨R', rest', e, a, b, c, fun z hz hzx => ?_⟩
        rcases List.mem_cons.1 hz with rfl | hz
        · rcases hy with ⟨hy, _⟩ | ⟨i, _, hi⟩
          · exact absurd hy hzx
          · obtain rfl := h.inj hi hj (by rw [Int.natAbs_neg]; exact hx.symm)
            exact .inr ⟨i, hi, by omega⟩
        · exact d z hz hzx
      · rw [if_neg h2, hR.same.truth]
        obtain ⟨t, ht, hc⟩ := h.truth hy0 hyn
        rw [ht]
        dsimp only
        by_cases h3 : t = 1
        · rw [if_pos h3]
          have hyt : y ∈ S.trail := by
            rcases hc with ⟨_, e⟩ | ⟨e, _⟩ | ⟨e, _⟩
            · exact e
            · omega
            · omega
          obtain ⟨R', rest', e, a, b, c, d⟩ := lits_spec h hnn xr r R rest hR hr
          refine ⟨R', rest', e, a, b, c, fun z hz hzx => ?_⟩
          rcases List.mem_cons.1 hz with rfl | hz
          · rcases hy with ⟨hy, _⟩ | ⟨i, _, hi⟩
            · exact absurd hy hzx
            · exact (h.not_both hyt (get_mem hi)).elim
          · exact d z hz hzx
        · rw [if_neg h3]
          obtain ⟨i, hi, hit⟩ : ∃ i, i < nn ∧ S.trail[i]? = some (-y) := by
            rcases hy with ⟨_, hy⟩ | hy
            · rcases hc with ⟨e, _⟩ | ⟨_, e⟩ | ⟨_, e, _⟩
              · exact absurd e h3
              · exact (h.not_both hy e).elim
              · exact absurd hy e
            · exact hy
          obtain rfl := h.inj hit hj (by rw [Int.natAbs_neg]; exact hx.symm)
          obtain rfl := Option.some.inj (hj.symm.trans hit)
          have hout : R.out.length ≤ n + 1 := by
            rw [hR.out, List.length_cons]
            have := nodup_bound hR.dist (fun z hz => by
              obtain ⟨q, hq, _⟩ := hR.low z hz
              have := (h.trv _ (get_mem hq)).2
              rwa [Int.natAbs_neg] at this)
            omega
          have hop := hR.op
          have hcp := List.countP_le_length (p := isOpen S R.seen) (l := List.range nn)
          rw [List.length_range] at hcp
          have htl := h.len
          rw [if_neg (by rw [hR.same.len, h.five.a]; omega)]
          have hsame : Same S (R.S.touch y.natAbs) := hR.same.trans (Same.touch _ _)
          have htd : S.trail.getD i 0 = -y := getD_some hit
          have hlv1 : 1 ≤ lvAt S.starts i := by omega
          have hsn : ∀ j, (((S.trail.getD j 0).natAbs : Int) ∈ R.seen ++ [(y.natAbs : Int)]) ↔ ((S.trail.getD j 0).natAbs : Int) ∈ R.seen ∨ ((S.trail.getD j 0).natAbs : Int) = (y.natAbs : Int) := fun j => by rw [List.mem_append, List.mem_singleton]
          by_cases h4 : (lvAt S.starts i : Int) = (S.starts.length : Int)
          · rw [if_pos h4]
            have hR2 : LI S n nn ⟨R.S.touch y.natAbs, R.out, R.seen ++ [(y.natAbs : Int)], R.op + 1⟩ rest := by
              refine ⟨hsame, hR.out, hR.low, fun v hv => ?_, fun z hz => List.mem_append.2 (.inl (hR.rs z hz)), hR.dist, ?_⟩
              · rcases List.mem_append.1 hv with hv | hv
                · exact hR.seen v hv
                · exact ⟨i, -y, hit, by rw [List.mem_singleton.1 hv, Int.natAbs_neg], hlv1, fun h5 => by omega⟩
              · show R.op + 1 = _
                rw [hR.op, countP_one (p := isOpen S R.seen) (q := isOpen S (R.seen ++ [(y.natAbs : Int)])) (z := i) List.nodup_range (List.mem_range.2 hi) ?_ ?_]
                · simp
                · unfold isOpen
                  rw [htd, Int.natAbs_neg, decide_eq_false h1, Bool.and_false]
                · intro q hq
                  have hql : q < S.trail.length := by have := List.mem_range.1 hq; omega
                  unfold isOpen
                  by_cases e : q = i
                  · subst e
                    rw [htd, Int.natAbs_neg, decide_eq_true (show lvAt S.starts q = S.starts.length by omega), decide_eq_true (List.mem_append.2 (.inr (List.mem_singleton.2 rfl)))]
                    simp
                  · have : (q == i) = false := beq_eq_false_iff_ne.2 e
                    rw [this, Bool.or_false]
                    congr 1
                    refine decide_eq_decide.2 ((hsn q).trans (or_iff_left (fun e2 => e ?_)))
                    exact h.inj (getD_get (d := 0) hql) hit (by rw [Int.natAbs_neg]; omega)
            obtain ⟨R', rest', e, a, b, c, d⟩ := lits_spec h hnn xr r _ rest hR2 hr
            refine ⟨R', rest', e, a, fun v hv => b v (List.mem_append.2 (.inl hv)), c, fun z hz hzx => ?_⟩
            rcases List.mem_cons.1 hz with rfl | hz
            · exact .inl (b _ (List.mem_append.2 (.inr (List.mem_singleton.2 rfl))))
            · exact d z hz hzx
          · rw [if_neg h4]
            have hle := lvAt_le S.starts i
            have hR2 : LI S n nn ⟨R.S.touch y.natAbs, R.out ++ [y], R.seen ++ [(y.natAbs : Int)], R.op⟩ (rest ++ [y]) := by
              refine ⟨hsame, by show R.out ++ [y] = _; rw [hR.out]; rfl, fun z hz => ?_, fun v hv => ?_, fun z hz => ?_, ?_, ?_⟩
              · rcases List.mem_append.1 hz with hz | hz
                · exact hR.low z hz
                · rw [List.mem_singleton.1 hz]
                  exact ⟨i, hit, hlv1, by omega⟩
              · rcases List.mem_append.1 hv with hv | hv
                · obtain ⟨q, z, b1, b2, b3, b4⟩ := hR.seen v hv
                  exact ⟨q, z, b1, b2, b3, fun h5 => List.mem_append.2 (.inl (b4 h5))⟩
                · exact ⟨i, -y, hit, by rw [List.mem_singleton.1 hv, Int.natAbs_neg], hlv1, fun _ => by rw [Int.neg_neg]; simp⟩
              · rcases List.mem_append.1 hz with hz | hz
                · exact List.mem_append.2 (.inl (hR.rs z hz))
                · rw [List.mem_singleton.1 hz]; simp
              · rw [List.map_append, List.nodup_append]
                refine ⟨hR.dist, by simp, fun a ha b hb e => ?_⟩
                obtain ⟨z, hz, rfl⟩ := List.mem_map.1 ha
                rw [List.map_cons, List.map_nil, List.mem_singleton] at hb
                exact h1 (by rw [← hb, ← e]; exact hR.rs z hz)
              · show R.op = _
                rw [hR.op]
                congr 1
                refine List.countP_congr (fun q hq => ?_)
                have hql : q < S.trail.length := by have := List.mem_range.1 hq; omega
                unfold isOpen
                by_cases e : q = i
                · subst e
                  rw [decide_eq_false (show ¬ lvAt S.starts q = S.starts.length by omega), Bool.false_and, Bool.false_and]
                · have : decide (((S.trail.getD q 0).natAbs : Int) ∈ R.seen) = decide (((S.trail.getD q 0).natAbs : Int) ∈ R.seen ++ [(y.natAbs : Int)]) := by
                    refine decide_eq_decide.2 ((hsn q).trans (or_iff_left (fun e2 => e ?_))).symm
                    exact h.inj (getD_get (d := 0) hql) hit (by rw [Int.natAbs_neg]; omega)
                  rw [this]
            obtain ⟨R', rest', e, a, b, c, d⟩ := lits_spec h hnn xr r _ _ hR2 hr
            refine ⟨R', rest', e, a, fun v hv => b v (List.mem_append.2 (.inl hv)), fun z hz => c z (List.mem_append.2 (.inl hz)), fun z hz hzx => ?_⟩
            rcases List.mem_cons.1 hz with rfl | hz
            · exact .inl (b _ (List.mem_append.2 (.inr (List.mem_singleton.2 rfl))))
            · exact d z hz hzx
theorem downTo_spec {trail seen : List Int} (hb : ∀ x ∈ trail, x.natAbs ≤ 1000000000) : ∀ (nn : Nat), nn ≤ trail.length → (∃ j, j < nn ∧ ((trail.getD j 0).natAbs : Int) ∈ seen) → ∃ m x, downTo trail seen nn = some m ∧ m < nn ∧ trail[m]? = some x ∧ (x.natAbs : Int) ∈ seen ∧ ∀ j, m < j → j < nn → ((trail.getD j 0).natAbs : Int) ∉ seen
  | 0, _, ⟨j, hj, _⟩ => by omega
  | k + 1, hl, hex => by
    have hk : trail[k]? = some (trail.getD k 0) := getD_get (by omega)
    unfold downTo
    rw [hk]
    dsimp only
    rw [if_neg (by have := hb _ (get_mem hk); omega)]
    by_cases h1 : ((trail.getD k 0).natAbs : Int) ∈ seen
    · rw [if_pos h1]
      exact ⟨k, _, rfl, by omega, hk, h1, fun j a b => by omega⟩
    · rw [if_neg h1]
      obtain ⟨j, hj, hs⟩ := hex
      obtain ⟨m, x, a, b, c, d, e⟩ := downTo_spec hb k (by omega) ⟨j, by
        refine Nat.lt_of_le_of_ne (by omega) (fun e => h1 (e ▸ hs)), hs⟩
      exact ⟨m, x, a, by omega, c, d, fun q hq1 hq2 => by
        by_cases e2 : q = k
        · subst e2; exact h1
        · exact e q hq1 (by omega)⟩
end Go.Proofs.Ytckimhhncpnkpaa.Sat
/- learn. -/
namespace Go.Proofs.Ytckimhhncpnkpaa.H
set_option linter.unusedSimpArgs false
set_option linter.unusedVariables false
open Go.RowKit Go.Proofs.YtckimhhncpnkpaaW.PrintWords Go.Proofs.YtckimhhncpnkpaaW.PrintLast Go.Proofs.YtckimhhncpnkpaaW.PrintMore Go.Proofs.Ytckimhhncpnkpaa.Sep Go.Proofs.Ytckimhhncpnkpaa.Sat
theorem zeroB : ∀ w, (zeroValue 4).run Try.prog w = .ok (.bool false) w := fun w => by kernel_rfl
theorem same_watch {S S' : Sol} (h : Same S S') : S'.watch = S.watch := by rw [h.eq]
theorem same_sol {S S' : Sol} (h : Same S S') (b : Nat) : sol b S' = solG b S' (S.l.map .own) (ownE S.watch) := by
  unfold sol
  rw [h.l, same_watch h]
theorem set_back {es : List En} {j : Nat} {e e' : En} (h : es[j]? = some e) : (es.set j e').set j e = es := by
  rw [List.set_set]
  apply List.ext_getElem?
  intro q
  rw [List.getElem?_set]
  by_cases hq : j = q
  · subst hq
    rw [if_pos rfl, if_pos (List.getElem?_eq_some_iff.1 h).1, h]
  · rw [if_neg hq]
theorem q_varN (y : Int) (v : Nat) (hv : vab y = (v : Int)) (w : World) (h0 : -1000000000 ≤ y) (h1 : y ≤ 1000000000) : Calls Try.prog 26 #[.int .i64 y] w fun e w' => e = .returned (.int .i64 (v : Int)) ∧ w = w' := by
  rw [← hv]
  exact q_variable y w h0 h1
def LearnP (b : Nat) (S' : Sol) (out : List Int) (lv : Int) (e : Ending) (L : List Ch) : Prop := ∃ A c, e = .returned (.tuple #[.slice A out.length c, .int .i64 lv]) ∧ L = [sol b S', ir A out.length c out]
set_option maxHeartbeats 8000000 in
set_option maxRecDepth 100000 in
theorem q_learn {w : World} {b : Nat} {S S' : Sol} {n f : Nat} {k0 lv : Int} {out' : List Int} (h : S.learn f k0 = some (S', out', lv)) (h5 : Five S n) (hn : n ≤ 1000000000) (ht : S.trail.length ≤ 1000000000) (hst : S.starts.length ≤ 1000000000) (hll : S.l.length ≤ 1000000000) :
    Does Try.prog 50 #[.pointer (some ⟨b, 0, none⟩), .int .i64 k0] w [sol b S] (LearnP b S' out' lv) := by
  have mixed : Try.prog.follows Departure.mixedOrders = true := by kernel_rfl
  refine does_intro fun U hs => ?_
  unfold Sol.learn at h
  obtain ⟨Rf, hRf, hpk⟩ : ∃ R : Lrn, Sat.resolve S.starts.length f k0 S.trail.length ⟨S, [0], [], 0⟩ = some R ∧ Sat.pick R.S (R.out.length - 1) 1 R.out 0 = some (out', lv) ∧ R.S = S' := by
    split at h
    · cases h
    · rename_i R hR
      split at h
      · cases h
      · rename_i o2 lv2 hp
        cases h
        exact ⟨R, hR, hp, rfl⟩
  have HRF := Aside0.mk hRf
  have HPK := Aside0.mk hpk
  have HN := Aside0.mk (And.intro h5 (And.intro hn (And.intro ht (And.intro hst hll))))
  obtain ⟨r, hs⟩ := st_open hs
  obtain ⟨A0, c0, gw, A3, c3, A4, c4, A5, c5, A6, c6, A7, c7, A9, c9, A10, c10⟩ := r
  have H := Aside0.mk (show St w U w [blk b #[.slice A0 S.l.length c0, .int .i64 S.added, .map (some gw), .slice A3 S.is.length c3, .slice A4 S.level.length c4, .slice A5 S.why.length c5, .slice A6 S.act.length c6, .slice A7 S.last.length c7, .int .i64 S.bump, .slice A9 S.trail.length c9, .slice A10 S.starts.length c10, .int .i64 S.next, .int .i64 S.vars, .bool S.nothing] 50, ir A3 S.is.length c3 S.is, ir A4 S.level.length c4 S.level, ir A5 S.why.length c5 S.why, ir A6 S.act.length c6 S.act, ir A7 S.last.length c7 S.last, ir A9 S.trail.length c9 S.trail, ir A10 S.starts.length c10 S.starts, rr A0 S.l.length c0 (S.l.map .own), wm gw (ownE S.watch)] from hs)
  have cS := H.out.cell (i := 0) rfl
  have ht2 : (S.trail.length : Int) ≤ 1000000000 := by omega
  clear hs h hRf hpk h5 hn hst hll
  go_enter Try.func50, Try.ntmps50
  go_wp2_with (first
    | ((with_reducible refine gate_dst (N := 18) rfl ?_); refine ev_lit rfl H.out (n := 1) (cs := #[.int .i64 0]) (t := 3) ?hr ?_; (case hr => first | (go_simp; done) | (go_simp; rfl)); intro go w1_ H1; clear H cS; have H := Aside0.mk (show St w U w1_ [blk go #[.int .i64 0] 3, blk b #[.slice A0 S.l.length c0, .int .i64 S.added, .map (some gw), .slice A3 S.is.length c3, .slice A4 S.level.length c4, .slice A5 S.why.length c5, .slice A6 S.act.length c6, .slice A7 S.last.length c7, .int .i64 S.bump, .slice A9 S.trail.length c9, .slice A10 S.starts.length c10, .int .i64 S.next, .int .i64 S.vars, .bool S.nothing] 50, ir A3 S.is.length c3 S.is, ir A4 S.level.length c4 S.level, ir A5 S.why.length c5 S.why, ir A6 S.act.length c6 S.act, ir A7 S.last.length c7 S.last, ir A9 S.trail.length c9 S.trail, ir A10 S.starts.length c10 S.starts, rr A0 S.l.length c0 (S.l.map .own), wm gw (ownE S.watch)] from H1); clear H1; have cS := H.out.cell (i := 1) rfl)
    | ((with_reducible refine gate_dst (N := 19) rfl ?_); refine ev_mkms rfl H.out rfl ?_; intro gM w2_ H1; clear H cS; have H := Aside0.mk (show St w U w2_ [ms gM [], blk go #[.int .i64 0] 3, blk b #[.slice A0 S.l.length c0, .int .i64 S.added, .map (some gw), .slice A3 S.is.length c3, .slice A4 S.level.length c4, .slice A5 S.why.length c5, .slice A6 S.act.length c6, .slice A7 S.last.length c7, .int .i64 S.bump, .slice A9 S.trail.length c9, .slice A10 S.starts.length c10, .int .i64 S.next, .int .i64 S.vars, .bool S.nothing] 50, ir A3 S.is.length c3 S.is, ir A4 S.level.length c4 S.level, ir A5 S.why.length c5 S.why, ir A6 S.act.length c6 S.act, ir A7 S.last.length c7 S.last, ir A9 S.trail.length c9 S.trail, ir A10 S.starts.length c10 S.starts, rr A0 S.l.length c0 (S.l.map .own), wm gw (ownE S.watch)] from H1); clear H1; have cS := H.out.cell (i := 2) rfl))
  go_quiet (fail)
  rename_i nq
  have h1 := (lit_ir ((H.out.drewN nq).perm (List.Perm.swap _ _ _))).perm (List.perm_append_comm (l₁ := [ir (some ⟨go, 0, none⟩) 1 1 [0], ms gM []]) (l₂ := [blk b #[.slice A0 S.l.length c0, .int .i64 S.added, .map (some gw), .slice A3 S.is.length c3, .slice A4 S.level.length c4, .slice A5 S.why.length c5, .slice A6 S.act.length c6, .slice A7 S.last.length c7, .int .i64 S.bump, .slice A9 S.trail.length c9, .slice A10 S.starts.length c10, .int .i64 S.next, .int .i64 S.vars, .bool S.nothing] 50, ir A3 S.is.length c3 S.is, ir A4 S.level.length c4 S.level, ir A5 S.why.length c5 S.why, ir A6 S.act.length c6 S.act, ir A7 S.last.length c7 S.last, ir A9 S.trail.length c9 S.trail, ir A10 S.starts.length c10 S.starts, rr A0 S.l.length c0 (S.l.map .own), wm gw (ownE S.watch)]))
  have cS := h1.cell (i := 0) rfl
  have H0 := Aside0.mk (show St w U (w2_.drewN nq) [solG b S (S.l.map .own) (ownE S.watch), ir (some ⟨go, 0, none⟩) 1 1 [0], ms gM []] from st_shut (S := S) ⟨A0, c0, gw, A3, c3, A4, c4, A5, c5, A6, c6, A7, c7, A9, c9, A10, c10⟩ h1)
  clear H h1
  go_wp2_with fail
  clear cS
  go_loopg [1, 6, 8, 9] (f + 1) (fun kq v1 v6 v8 v9 wr => ∃ (f1 nn : Nat) (k op a9 : Int) (S1 : Sol) (out seen : List Int) (Ao : Option Addr) (co : Nat), v1 = .int .i64 k ∧ v6 = .slice Ao out.length co ∧ v8 = .int .i64 op ∧ v9 = .int .i64 a9 ∧ Aside0 (a9 = (nn : Int) - 1) ∧ Aside0 (f1 < kq) ∧ Aside0 (Sat.resolve S.starts.length f1 k nn ⟨S1, out, seen, op⟩ = some Rf) ∧ Aside0 (Same S S1) ∧ Aside0 (nn ≤ S.trail.length) ∧ Aside0 (St w U wr [solG b S1 (S.l.map .own) (ownE S.watch), ir Ao out.length co out, ms gM seen]))
  case atStart => exact ⟨f, S.trail.length, k0, 0, _, S, [0], [], some ⟨go, 0, none⟩, 1, rfl, rfl, rfl, rfl, ⟨rfl⟩, ⟨by omega⟩, HRF, ⟨Same.refl S⟩, ⟨Nat.le_refl _⟩, H0⟩
  case round =>
    clear H0
    obtain ⟨f1, nn, k, op, a9, S1, out, seen, Ao, co, rfl, rfl, rfl, rfl, HA9, HQ, HR, HS, HNN, H0⟩ := hrel
    have h := HR.out
    cases f1 with
    | zero => rw [Sat.resolve] at h; cases h
    | succ f1 =>
    cases gk with
    | zero => exact absurd HQ.out (by omega)
    | succ k1 =>
    rw [Sat.resolve] at h
    obtain ⟨kn, rfl⟩ : ∃ kn : Nat, k = (kn : Int) := by
      by_cases hk : k < 0
      · rw [if_pos hk] at h; cases h
      · exact ⟨k.toNat, by omega⟩
    rw [if_neg (by omega), Int.toNat_natCast] at h
    dsimp only at h
    obtain ⟨l, hl⟩ : ∃ l, S1.l[kn]? = some l := by
      match hq : S1.l[kn]? with
      | none => rw [hq] at h; cases h
      | some z => exact ⟨z, rfl⟩
    rw [hl] at h
    dsimp only at h
    obtain ⟨R1, hR1⟩ : ∃ R1, Sat.lits S.starts.length l ⟨S1, out, seen, op⟩ = some R1 := by
      match hq : Sat.lits S.starts.length l ⟨S1, out, seen, op⟩ with
      | none => rw [hq] at h; cases h
      | some z => exact ⟨z, rfl⟩
    rw [hR1] at h
    dsimp only at h
    have HX := Aside0.mk h
    have hsl := HS.out.l
    have hjo : (S.l.map En.own)[kn]? = some (.own l) := by rw [List.getElem?_map, ← hsl, hl]; rfl
    have hkl : kn < S1.l.length := (List.getElem?_eq_some_iff.1 hl).1
    obtain ⟨B, nl, d, h1⟩ := st_take hjo H0.out
    have hnl := h1.ir_len (i := 1) rfl
    have hsm := h1.ir_cap (i := 1) rfl
    have HJO := Aside0.mk hjo
    have HL0 := Aside0.mk (show Sat.lits S.starts.length (l.drop 0) ⟨S1, out, seen, op⟩ = some R1 from hR1)
    clear H0
    have H0 := Aside0.mk h1
    obtain ⟨r, h2⟩ := st_open h1
    obtain ⟨g0, e0⟩ := h2.rr_some (i := 8) rfl (by omega)
    obtain ⟨A0, c0, gw, A3, c3, A4, c4, A5, c5, A6, c6, A7, c7, A9, c9, A10, c10⟩ := r
    dsimp only at e0
    subst e0
    have cS := h2.cell (i := 0) rfl
    dsimp only [cells] at cS
    have z0 := h2.rr_cell (i := 8) rfl (j := kn) (B := B) (k := nl) (d := d) (by rw [List.getElem?_set_self (by rw [List.length_map, ← hsl]; exact hkl)])
    have hlb : S1.l.length ≤ 1000000000 := by rw [hsl]; exact HN.out.2.2.2.2
    have hkl2 : kn < S.l.length := by rw [← hsl]; exact hkl
    have p1 : ((kn : Int) < (S1.l.length : Int)) = True := eq_true (by omega)
    have p2 : (kn < S1.l.length) = True := eq_true hkl
    have p3 : (0 ≤ (kn : Int)) = True := eq_true (by omega)
    have HNL := Aside0.mk (show l.length = nl ∧ (nl : Int) ≤ 9223372036854775807 by unfold maxLen at hsm; omega)
    clear h h1 h2 hl hR1 hsl hjo hkl hnl hsm hkl2
    go_wp2_with fail
    clear cS z0 p1 p2 p3 hlb
    go_loopg [39, 6, 8] (nl + 1) (fun kq v39 v6 v8 wr => ∃ (i : Nat) (op : Int) (S1 : Sol) (out seen : List Int) (Ao : Option Addr) (co : Nat), v39 = .int .i64 (i : Int) ∧ v6 = .slice Ao out.length co ∧ v8 = .int .i64 op ∧ Aside0 (i ≤ nl) ∧ Aside0 (nl - i < kq) ∧ Aside0 (Sat.lits S.starts.length (l.drop i) ⟨S1, out, seen, op⟩ = some R1) ∧ Aside0 (Same S S1) ∧ Aside0 (St w U wr [solG b S1 ((S.l.map .own).set kn (.bare B nl d)) (ownE S.watch), ir B nl d l, ir Ao out.length co out, ms gM seen]))
    case atStart => exact ⟨0, op, S1, out, seen, Ao, co, rfl, rfl, rfl, ⟨Nat.zero_le _⟩, ⟨by omega⟩, HL0, HS, H0⟩
    case round =>
      clear H0 HL0
      obtain ⟨i, op2, S2, out2, seen2, Ao2, co2, rfl, rfl, rfl, HI, HQ1, HL, HS2, H0⟩ := hrel
      cases gk with
      | zero => exact absurd HQ1.out (by have := HI.out; omega)
      | succ k2 =>
      have hs5 : S2.level.length = n ∧ S2.is.length = n ∧ S2.act.length = n := by
        have h5 := HN.out.1
        exact ⟨by rw [HS2.out.level]; exact h5.l, by rw [HS2.out.is]; exact h5.i, HS2.out.len.trans h5.a⟩
      have hnn9 := HN.out.2.1
      have HNI := Aside0.mk (show S2.is.length ≤ 1000000000 by omega)
      by_cases hi : i < nl
      · obtain ⟨y, hy⟩ : ∃ y, l[i]? = some y := ⟨_, List.getElem?_eq_getElem (by have := HNL.out; omega)⟩
        have h := HL.out
        have hd : l.drop i = y :: l.drop (i + 1) := by
          rw [List.drop_eq_getElem_cons (by have := HNL.out; omega), (List.getElem?_eq_some_iff.1 hy).2]
        rw [hd, Sat.lits] at h
        obtain ⟨gB, eB⟩ := H0.out.ir_some (i := 1) rfl (by omega)
        subst eB
        have zr := H0.out.ir_cell (i := 1) rfl hy
        have hyb : y.natAbs ≤ 1000000000 := by
          by_cases hc : 1000000000 < y.natAbs
          · rw [if_pos hc] at h; cases h
          · omega
        rw [if_neg (by omega)] at h
        obtain ⟨v, hv⟩ : ∃ v : Nat, v = y.natAbs := ⟨_, rfl⟩
        rw [← hv] at h hyb
        have HV := Aside0.mk (show vab y = (v : Int) by unfold vab; rw [hv])
        have HVN := Aside0.mk hv
        have HYB := Aside0.mk (show -1000000000 ≤ y ∧ y ≤ 1000000000 by omega)
        have d1 : decide (i < nl) = true := decide_eq_true hi
        have d2 : decide ((i : Int) < (nl : Int)) = true := decide_eq_true (by omega)
        have p1 : ((i : Int) < (nl : Int)) = True := eq_true (by omega)
        have p2 : (i < nl) = True := eq_true hi
        have p3 : (0 ≤ (i : Int)) = True := eq_true (by omega)
        have hi64 : (i : Int) ≤ 9223372036854775806 := by have := HNL.out; omega
        have HI2 := Aside0.mk hi
        have HS5 := Aside0.mk hs5
        by_cases hvs : (v : Int) ∈ seen2
        · rw [if_pos hvs] at h
          have HL2 := Aside0.mk h
          have hlk : (Instr.lookup 86 (.map (some gM)) (.int .i64 (v : Int)) false).run Try.prog wr = .ok (.bool true) wr := by
            have := H0.out.ms_lookup (i := 3) rfl Try.underlying86 Try.underlying3 zeroB (v : Int)
            rwa [decide_eq_true hvs] at this
          clear h hd hy hv hyb hvs hi hs5
          go_wp2_with (first
            | (go_at_call 26; (with_reducible refine (q_variable y _ HYB.out.1 HYB.out.2).mono ?_); rintro e w' ⟨rfl, rfl⟩; rw [HV.out]))
          go_roundg k2
          case measure => have := HI2.out; have := HQ1.out; omega
          case rel => exact ⟨i + 1, op2, S2, out2, seen2, Ao2, co2, by go_num, rfl, rfl, ⟨by have := HI2.out; omega⟩, ⟨by have := HI2.out; have := HQ1.out; omega⟩, HL2, HS2, H0⟩
        · rw [if_neg hvs] at h
          dsimp only at h
          obtain ⟨n0, hn0⟩ : ∃ n0, S2.level[v]? = some n0 := by
            match hq : S2.level[v]? with
            | none => rw [hq] at h; cases h
            | some z => exact ⟨z, rfl⟩
          rw [hn0] at h
          dsimp only at h
          have hlk : (Instr.lookup 86 (.map (some gM)) (.int .i64 (v : Int)) false).run Try.prog wr = .ok (.bool false) wr := by
            have := H0.out.ms_lookup (i := 3) rfl Try.underlying86 Try.underlying3 zeroB (v : Int)
            rwa [decide_eq_false hvs] at this
          have hvl := (List.getElem?_eq_some_iff.1 hn0).1
          have HLV := Aside0.mk hn0
          have HLP := Aside0.mk (show 0 < S2.level.length by omega)
          have HNV := Aside0.mk hvs
          obtain ⟨r, h2⟩ := st_open H0.out
          obtain ⟨g4, e4⟩ := h2.ir_some (i := 2) rfl HLP.out
          obtain ⟨A0, c0, gw, A3, c3, A4, c4, A5, c5, A6, c6, A7, c7, A9, c9, A10, c10⟩ := r
          dsimp only at e4
          subst e4
          have cS := h2.cell (i := 0) rfl
          dsimp only [cells] at cS
          have z4 := h2.ir_cell (i := 2) rfl HLV.out
          clear h2
          have q1 : ((v : Int) < (S2.level.length : Int)) = True := eq_true (by omega)
          have q2 : (v < S2.level.length) = True := eq_true hvl
          have q3 : (0 ≤ (v : Int)) = True := eq_true (by omega)
          by_cases hz : n0 = 0
          · rw [if_pos hz] at h
            have HL2 := Aside0.mk h
            have d3 : (n0 == 0) = true := beq_iff_eq.2 hz
            clear h hd hy hv hyb hvs hi hs5 hz hn0 hvl
            go_wp2_with (first
              | (go_at_call 26; (with_reducible refine (q_variable y _ HYB.out.1 HYB.out.2).mono ?_); rintro e w' ⟨rfl, rfl⟩; rw [HV.out]))
            go_roundg k2
            case measure => have := HI2.out; have := HQ1.out; omega
            case rel => exact ⟨i + 1, op2, S2, out2, seen2, Ao2, co2, by go_num, rfl, rfl, ⟨by have := HI2.out; omega⟩, ⟨by have := HI2.out; have := HQ1.out; omega⟩, HL2, HS2, H0⟩
          · rw [if_neg hz] at h
            obtain ⟨t, ht⟩ : ∃ t, S2.truth y = some t := by
              match hq : S2.truth y with
              | none => rw [hq] at h; cases h
              | some z => exact ⟨z, rfl⟩
            rw [ht] at h
            dsimp only at h
            have HTR := Aside0.mk ht
            have d3 : (n0 == 0) = false := beq_eq_false_iff_ne.2 hz
            by_cases ht1 : t = 1
            · rw [if_pos ht1] at h
              have HL2 := Aside0.mk h
              have d4 : (t == 1) = true := beq_iff_eq.2 ht1
              clear h hd hy hv hyb hvs hi hs5 hz hn0 hvl ht ht1
              go_wp2_with (first
                | (go_at_call 26; (with_reducible refine (q_variable y _ HYB.out.1 HYB.out.2).mono ?_); rintro e w' ⟨rfl, rfl⟩; rw [HV.out])
                | (go_at_call 37; (with_reducible refine (q_truthM H0.out.sep HTR.out HNI.out).mono ?_); rintro e w' ⟨rfl, rfl⟩))
              go_roundg k2
              case measure => have := HI2.out; have := HQ1.out; omega
              case rel => exact ⟨i + 1, op2, S2, out2, seen2, Ao2, co2, by go_num, rfl, rfl, ⟨by have := HI2.out; omega⟩, ⟨by have := HI2.out; have := HQ1.out; omega⟩, HL2, HS2, H0⟩
            · rw [if_neg ht1] at h
              have d4 : (t == 1) = false := beq_eq_false_iff_ne.2 ht1
              obtain ⟨hck, h⟩ : ¬ (S2.act.length ≤ v ∨ 1000000000 < out2.length ∨ op2 < 0 ∨ 1000000000 < op2) ∧ (if n0 = (S.starts.length : Int) then Sat.lits S.starts.length (l.drop (i + 1)) ⟨S2.touch v, out2, seen2 ++ [(v : Int)], op2 + 1⟩ else Sat.lits S.starts.length (l.drop (i + 1)) ⟨S2.touch v, out2 ++ [y], seen2 ++ [(v : Int)], op2⟩) = some R1 := by
                split at h
                · cases h
                · rename_i hc; exact ⟨hc, h⟩
              have HTA := Aside0.mk (show v < S2.act.length ∧ S2.act.length ≤ 1000000000 by omega)
              have HOB := Aside0.mk (show out2.length ≤ 1000000000 by omega)
              have hopb : 0 ≤ op2 ∧ op2 ≤ 1000000000 := by omega
              obtain ⟨hop1, hop2⟩ := hopb
              have hsame := HS2.out.trans (Same.touch S2 v)
              have HS3 := Aside0.mk hsame
              have HLV3 := Aside0.mk (show (S2.touch v).level[v]? = some n0 by rw [(Same.touch S2 v).level]; exact hn0)
              have hlev3 : (S2.touch v).level.length = S2.level.length := by rw [(Same.touch S2 v).level]
              have HLP3 := Aside0.mk (show 0 < (S2.touch v).level.length by omega)
              have q4 : ((v : Int) < ((S2.touch v).level.length : Int)) = True := eq_true (by omega)
              have q5 : (v < (S2.touch v).level.length) = True := eq_true (by omega)
              have hvb : (v : Int) ≤ 1000000000 := by omega
              obtain ⟨w8, hmu, h8⟩ := H0.out.ms_add (P := Try.prog) (i := 3) rfl Try.underlying86 Try.underlying3 (v : Int) HNV.out
              have H8 := Aside0.mk (show St w U w8 [solG b S2 ((S.l.map .own).set kn (.bare (some ⟨gB, 0, none⟩) nl d)) (ownE S.watch), ir (some ⟨gB, 0, none⟩) nl d l, ir Ao2 out2.length co2 out2, ms gM (seen2 ++ [(v : Int)])] from h8)
              by_cases hh : n0 = (S.starts.length : Int)
              · rw [if_pos hh] at h
                have HL2 := Aside0.mk h
                have d5 : (n0 == (S.starts.length : Int)) = true := beq_iff_eq.2 hh
                clear h hd hy hv hyb hvs hi hs5 hz hn0 hvl ht ht1 hck hsame hlev3 hh h8
                go_wp2_with (first
                  | (go_at_call 26; (with_reducible refine (q_variable y _ HYB.out.1 HYB.out.2).mono ?_); rintro e w' ⟨rfl, rfl⟩; rw [HV.out])
                  | (go_at_call 37; (with_reducible refine (q_truthM H0.out.sep HTR.out HNI.out).mono ?_); rintro e w' ⟨rfl, rfl⟩)
                  | (go_at_call 62; (refine (St.does (L1 := [solG b S2 ((S.l.map .own).set kn (.bare (some ⟨gB, 0, none⟩) nl d)) (ownE S.watch)]) (L2 := [ir (some ⟨gB, 0, none⟩) nl d l, ir Ao2 out2.length co2 out2, ms gM (seen2 ++ [(v : Int)])]) H8.out (q_touchG v HTA.out.1 HTA.out.2)).mono ?_); rintro e w9_ ⟨L1', ⟨rfl, rfl⟩, H1⟩; clear H0 H8 cS z4 zr hlk hmu; have H0 := Aside0.mk (show St w U w9_ [solG b (S2.touch v) ((S.l.map .own).set kn (.bare (some ⟨gB, 0, none⟩) nl d)) (ownE S.watch), ir (some ⟨gB, 0, none⟩) nl d l, ir Ao2 out2.length co2 out2, ms gM (seen2 ++ [(v : Int)])] from H1); clear H1; obtain ⟨r, h2⟩ := st_open H0.out; obtain ⟨gy4, e4⟩ := h2.ir_some (i := 2) rfl HLP3.out; obtain ⟨A0, c0, gw, A3, c3, A4, c4, A5, c5, A6, c6, A7, c7, A9, c9, A10, c10⟩ := r; dsimp only at e4; subst e4; have cS := h2.cell (i := 0) rfl; dsimp only [cells] at cS; have z4 := h2.ir_cell (i := 2) rfl HLV3.out; clear h2))
                go_roundg k2
                case measure => have := HI2.out; have := HQ1.out; omega
                case rel => exact ⟨i + 1, op2 + 1, S2.touch v, out2, seen2 ++ [(v : Int)], Ao2, co2, by go_num, rfl, rfl, ⟨by have := HI2.out; omega⟩, ⟨by have := HI2.out; have := HQ1.out; omega⟩, HL2, HS3, H0⟩
              · rw [if_neg hh] at h
                have HL2 := Aside0.mk h
                have d5 : (n0 == (S.starts.length : Int)) = false := beq_eq_false_iff_ne.2 hh
                clear h hd hy hv hyb hvs hi hs5 hz hn0 hvl ht ht1 hck hsame hlev3 hh h8
                go_wp2_with (first
                  | (go_at_call 26; (with_reducible refine (q_variable y _ HYB.out.1 HYB.out.2).mono ?_); rintro e w' ⟨rfl, rfl⟩; rw [HV.out])
                  | (go_at_call 37; (with_reducible refine (q_truthM H0.out.sep HTR.out HNI.out).mono ?_); rintro e w' ⟨rfl, rfl⟩)
                  | (go_at_call 62; (refine (St.does (L1 := [solG b S2 ((S.l.map .own).set kn (.bare (some ⟨gB, 0, none⟩) nl d)) (ownE S.watch)]) (L2 := [ir (some ⟨gB, 0, none⟩) nl d l, ir Ao2 out2.length co2 out2, ms gM (seen2 ++ [(v : Int)])]) H8.out (q_touchG v HTA.out.1 HTA.out.2)).mono ?_); rintro e w9_ ⟨L1', ⟨rfl, rfl⟩, H1⟩; clear H0 H8 cS z4 zr hlk hmu; have H0 := Aside0.mk (show St w U w9_ [solG b (S2.touch v) ((S.l.map .own).set kn (.bare (some ⟨gB, 0, none⟩) nl d)) (ownE S.watch), ir (some ⟨gB, 0, none⟩) nl d l, ir Ao2 out2.length co2 out2, ms gM (seen2 ++ [(v : Int)])] from H1); clear H1; obtain ⟨r, h2⟩ := st_open H0.out; obtain ⟨gy4, e4⟩ := h2.ir_some (i := 2) rfl HLP3.out; obtain ⟨A0, c0, gw, A3, c3, A4, c4, A5, c5, A6, c6, A7, c7, A9, c9, A10, c10⟩ := r; dsimp only at e4; subst e4; have cS := h2.cell (i := 0) rfl; dsimp only [cells] at cS; have z4 := h2.ir_cell (i := 2) rfl HLV3.out; clear h2)
                  | ((with_reducible refine gate_dst (N := 82) rfl ?_); refine ev_lit rfl H0.out (n := 1) (cs := #[.int .i64 y]) (t := 3) ?hr ?_; (case hr => first | (go_simp; done) | (go_simp; rfl)); intro gt w10_ H1; clear H0 cS z4; have H0 := Aside0.mk (show St w U w10_ [blk gt #[.int .i64 y] 3, solG b (S2.touch v) ((S.l.map .own).set kn (.bare (some ⟨gB, 0, none⟩) nl d)) (ownE S.watch), ir (some ⟨gB, 0, none⟩) nl d l, ir Ao2 out2.length co2 out2, ms gM (seen2 ++ [(v : Int)])] from H1); clear H1)
                  | ((with_reducible refine gate_builtin (b := .append) (xs := #[.tmp 80, .tmp 82]) rfl ?_); refine ev_append rfl H0.out (i := 3) rfl (s := .tmp 80) (x := .tmp 82) rfl Try.underlying23 infoI rfl rfl (m := 1) (ys := [y]) rfl (Rdc.blk1 (H0.out.blk (i := 0) rfl)) (by have := HOB.out; omega) ?_; intro Ao3 co3 w11_ H1; have H1 := H1.drop; clear H0; have H0 := Aside0.mk (show St w U w11_ [solG b (S2.touch v) ((S.l.map .own).set kn (.bare (some ⟨gB, 0, none⟩) nl d)) (ownE S.watch), ir (some ⟨gB, 0, none⟩) nl d l, ir Ao3 (out2.length + 1) co3 (out2 ++ [y]), ms gM (seen2 ++ [(v : Int)])] from H1); clear H1))
                go_roundg k2
                case measure => have := HI2.out; have := HQ1.out; omega
                case rel => exact ⟨i + 1, op2, S2.touch v, out2 ++ [y], seen2 ++ [(v : Int)], Ao3, co3, by go_num, by rw [List.length_append]; rfl, rfl, ⟨by have := HI2.out; omega⟩, ⟨by have := HI2.out; have := HQ1.out; omega⟩, HL2, HS3, by rw [List.length_append]; exact H0⟩
      · have hie : i = nl := by have := HI.out; omega
        have hR1 : (⟨S2, out2, seen2, op2⟩ : Lrn) = R1 := by
          have h := HL.out
          rw [List.drop_of_length_le (by have := HNL.out; omega), Sat.lits] at h
          exact Option.some.inj h
        have h1 := st_give (j := kn) (by rw [List.getElem?_set_self (by have := (List.getElem?_eq_some_iff.1 HJO.out).1; exact this)]) H0.out
        rw [set_back HJO.out] at h1
        clear H0
        have H0 := Aside0.mk h1
        have h := HX.out
        rw [← hR1] at h
        dsimp only at h
        have d1 : decide (i < nl) = false := decide_eq_false hi
        have d2 : decide ((i : Int) < (nl : Int)) = false := decide_eq_false (by omega)
        obtain ⟨m, hm⟩ : ∃ m, Sat.downTo S2.trail seen2 nn = some m := by
          match hq : Sat.downTo S2.trail seen2 nn with
          | none => rw [hq] at h; cases h
          | some z => exact ⟨z, rfl⟩
        rw [hm] at h
        dsimp only at h
        obtain ⟨x, hx⟩ : ∃ x, S2.trail[m]? = some x := by
          match hq : S2.trail[m]? with
          | none => rw [hq] at h; cases h
          | some z => exact ⟨z, rfl⟩
        rw [hx] at h
        dsimp only at h
        obtain ⟨hck, h⟩ : ¬ (op2 < 0 ∨ 1000000000 < op2 ∨ out2 = []) ∧ (if op2 - 1 = 0 then some ⟨S2, out2.set 0 (-x), seen2, 0⟩ else match S2.why[x.natAbs]? with | none => none | some k' => Sat.resolve S.starts.length f1 k' m ⟨S2, out2, seen2, op2 - 1⟩) = some Rf := by
          split at h
          · cases h
          · rename_i hc; exact ⟨hc, h⟩
        have HX2 := Aside0.mk h
        have HM := Aside0.mk hm
        have HXM := Aside0.mk hx
        have hopb : 0 ≤ op2 ∧ op2 ≤ 1000000000 := by omega
        obtain ⟨hop1, hop2⟩ := hopb
        have HON := Aside0.mk (show 0 < out2.length by
          rcases Nat.eq_zero_or_pos out2.length with h0 | h0
          · exact absurd (List.eq_nil_of_length_eq_zero h0) (fun e => hck (.inr (.inr e)))
          · exact h0)
        have HS5 := Aside0.mk hs5
        have HTL := Aside0.mk (show S2.trail.length = S.trail.length by rw [HS2.out.trail])
        clear h hm hx hck hi hie hR1 h1 hs5
        go_wp2_with fail
        go_loopg [9] (nn + 1) (fun kq v9 wr => ∃ (q : Nat) (a9 : Int), v9 = .int .i64 a9 ∧ Aside0 (a9 = (q : Int) - 1) ∧ Aside0 (q ≤ nn) ∧ Aside0 (q < kq) ∧ Aside0 (Sat.downTo S2.trail seen2 q = some m) ∧ Aside0 (St w U wr [solG b S2 (S.l.map .own) (ownE S.watch), ir Ao2 out2.length co2 out2, ms gM seen2]))
        case atStart => exact ⟨nn, a9, rfl, HA9, ⟨Nat.le_refl _⟩, ⟨by omega⟩, HM, H0⟩
        case round =>
          clear H0 HA9
          obtain ⟨q, a9', rfl, HA, HQL, HQ2, HD, H0⟩ := hrel
          cases gk with
          | zero => exact absurd HQ2.out (by omega)
          | succ k3 =>
          have h := HD.out
          cases q with
          | zero => rw [Sat.downTo] at h; cases h
          | succ q =>
          rw [Sat.downTo] at h
          obtain ⟨x2, hx2⟩ : ∃ x2, S2.trail[q]? = some x2 := by
            match hq : S2.trail[q]? with
            | none => rw [hq] at h; cases h
            | some z => exact ⟨z, rfl⟩
          rw [hx2] at h
          dsimp only at h
          have hxb : x2.natAbs ≤ 1000000000 := by
            by_cases hc : 1000000000 < x2.natAbs
            · rw [if_pos hc] at h; cases h
            · omega
          rw [if_neg (by omega)] at h
          obtain rfl : a9' = (q : Int) := by have := HA.out; omega
          obtain ⟨u, hu⟩ : ∃ u : Nat, u = x2.natAbs := ⟨_, rfl⟩
          rw [← hu] at h hxb
          have HU := Aside0.mk (show vab x2 = (u : Int) by unfold vab; rw [hu])
          have HXB := Aside0.mk (show -1000000000 ≤ x2 ∧ x2 ≤ 1000000000 by omega)
          have hql := (List.getElem?_eq_some_iff.1 hx2).1
          have HZ9 := Aside0.mk hx2
          have HTP := Aside0.mk (show 0 < S2.trail.length by omega)
          have htl := HTL.out
          obtain ⟨r, h2⟩ := st_open H0.out
          obtain ⟨g9, e9⟩ := h2.ir_some (i := 6) rfl HTP.out
          obtain ⟨A0, c0, gw, A3, c3, A4, c4, A5, c5, A6, c6, A7, c7, A9, c9, A10, c10⟩ := r
          dsimp only at e9
          subst e9
          have cS := h2.cell (i := 0) rfl
          dsimp only [cells] at cS
          have z9 := h2.ir_cell (i := 6) rfl HZ9.out
          clear h2
          have p1 : ((q : Int) < (S2.trail.length : Int)) = True := eq_true (by omega)
          have p2 : (q < S2.trail.length) = True := eq_true hql
          have p3 : (0 ≤ (q : Int)) = True := eq_true (by omega)
          have hqb : (q : Int) ≤ 1000000000 := by omega
          by_cases hus : (u : Int) ∈ seen2
          · rw [if_pos hus] at h
            obtain rfl : q = m := Option.some.inj h
            obtain rfl : x2 = x := Option.some.inj (hx2.symm.trans HXM.out)
            have hlk : (Instr.lookup 86 (.map (some gM)) (.int .i64 (u : Int)) false).run Try.prog wr = .ok (.bool true) wr := by
              have := H0.out.ms_lookup (i := 2) rfl Try.underlying86 Try.underlying3 zeroB (u : Int)
              rwa [decide_eq_true hus] at this
            have HQN := Aside0.mk (show q ≤ S.trail.length by omega)
            by_cases hz : op2 - 1 = 0
            · have h9 := HX2.out
              rw [if_pos hz] at h9
              have HRE := Aside0.mk (Option.some.inj h9)
              obtain ⟨go2, eO⟩ := H0.out.ir_some (i := 1) rfl HON.out
              subst eO
              obtain ⟨y0, hy0⟩ : ∃ y, out2[0]? = some y := ⟨_, List.getElem?_eq_getElem HON.out⟩
              have zo := H0.out.ir_cell (i := 1) rfl hy0
              have fo := H0.out.ir_frz (i := 1) rfl
              have d3 : (op2 - 1 == 0) = true := beq_iff_eq.2 hz
              have hon := HON.out
              have po : (0 < out2.length) = True := eq_true hon
              have po2 : ((0 : Int) < (out2.length : Int)) = True := eq_true (by omega)
              have hxl := HXB.out.1
              have hxu := HXB.out.2
              clear h h9 hx2 hu hql hus htl hz hy0
              go_wp2_with (first
                | (go_at_call 26; (with_reducible refine (q_variable x2 _ HXB.out.1 HXB.out.2).mono ?_); rintro e w' ⟨rfl, rfl⟩; rw [HU.out])
                | ((with_reducible refine gate_store (t := 3) (p := 114) (v := .tmp 113) rfl ?_); refine ev_set rfl H0.out (i := 1) rfl 0 (-x2) HON.out ?hr ?_; (case hr => first | (go_simp; done) | (go_simp; rfl)); intro w20_ H1; clear H0 cS z9 zo fo hlk; have H0 := Aside0.mk (show St w U w20_ [solG b S2 (S.l.map .own) (ownE S.watch), ir (some ⟨go2, 0, none⟩) out2.length co2 (out2.set 0 (-x2)), ms gM seen2] from H1); clear H1))
              clear d3 po po2 p1 p2 p3
              have HPK2 := Aside0.mk (show Sat.pick S2 (out2.length - 1) 1 (out2.set 0 (-x2)) 0 = some (out', lv) ∧ S2 = S' by
                have h9 := HPK.out
                rw [← HRE.out] at h9
                dsimp only at h9
                rw [List.length_set] at h9
                exact h9)
              generalize hno : out2.length = no at *
              go_loopg [15, 16] (no + 1) (fun kq v15 v16 wr => ∃ (i dd : Nat) (lv2 : Int) (out3 : List Int), v15 = .int .i64 lv2 ∧ v16 = .int .i64 (i : Int) ∧ Aside0 (i + dd = no) ∧ Aside0 (dd < kq) ∧ Aside0 (1 ≤ i) ∧ Aside0 (Sat.pick S2 dd i out3 lv2 = some (out', lv)) ∧ Aside0 (St w U wr [solG b S2 (S.l.map .own) (ownE S.watch), ir (some ⟨go2, 0, none⟩) no co2 out3, ms gM seen2]))
              case atStart => exact ⟨1, no - 1, 0, _, rfl, rfl, ⟨by have := HON.out; omega⟩, ⟨by omega⟩, ⟨Nat.le_refl _⟩, ⟨HPK2.out.1⟩, H0⟩
              case round =>
                clear H0
                obtain ⟨i, dd, lv2, out3, rfl, rfl, HI3, HQ3, HI1, HP, H0⟩ := hrel
                cases gk with
                | zero => exact absurd HQ3.out (by omega)
                | succ k4 =>
                have h := HP.out
                cases dd with
                | zero =>
                  rw [Sat.pick] at h
                  have h7 := Option.some.inj h
                  simp only [Prod.mk.injEq] at h7
                  obtain ⟨rfl, rfl⟩ := h7
                  have hii : i = no := by have := HI3.out; omega
                  subst hii
                  have d1 : decide (i < i) = false := decide_eq_false (by omega)
                  have d2 : decide ((i : Int) < (i : Int)) = false := decide_eq_false (by omega)
                  have HLEN := Aside0.mk (H0.out.ir_len (i := 1) rfl)
                  clear h
                  go_wp2_with fail
                  go_ret2
                  have h1 := (H0.out.perm (perm_idx [2, 0, 1] (by rfl) rfl)).drop
                  have hso := same_sol HS2.out b
                  have hsp := HPK2.out.2
                  rw [← hso, hsp] at h1
                  refine ⟨_, ⟨some ⟨go2, 0, none⟩, co2, by rw [HLEN.out]; rfl, rfl⟩, ?_⟩
                  rw [HLEN.out]
                  exact h1
                | succ dd =>
                  rw [Sat.pick] at h
                  obtain ⟨y, hy⟩ : ∃ y, out3[i]? = some y := by
                    match hq : out3[i]? with
                    | none => rw [hq] at h; cases h
                    | some z => exact ⟨z, rfl⟩
                  rw [hy] at h
                  dsimp only at h
                  obtain ⟨n0, hn0⟩ : ∃ n0, S2.level[y.natAbs]? = some n0 := by
                    match hq : S2.level[y.natAbs]? with
                    | none => rw [hq] at h; cases h
                    | some z => exact ⟨z, rfl⟩
                  rw [hn0] at h
                  dsimp only at h
                  have hs5 := HS5.out
                  have hnn9 := HN.out.2.1
                  have hvl := (List.getElem?_eq_some_iff.1 hn0).1
                  have hol := H0.out.ir_len (i := 1) rfl
                  obtain ⟨v, hv⟩ : ∃ v : Nat, v = y.natAbs := ⟨_, rfl⟩
                  rw [← hv] at hn0 hvl
                  have hvv : vab y = (v : Int) := by unfold vab; rw [hv]
                  have HVV := Aside0.mk (show vab y = (v : Int) ∧ -1000000000 ≤ y ∧ y ≤ 1000000000 from ⟨hvv, by omega, by omega⟩)
                  have HLV := Aside0.mk hn0
                  have HLP := Aside0.mk (show 0 < S2.level.length by omega)
                  have HYI := Aside0.mk hy
                  have zy := H0.out.ir_cell (i := 1) rfl hy
                  have fo := H0.out.ir_frz (i := 1) rfl
                  obtain ⟨r, h2⟩ := st_open H0.out
                  obtain ⟨g4, e4⟩ := h2.ir_some (i := 2) rfl HLP.out
                  obtain ⟨A0, c0, gw, A3, c3, A4, c4, A5, c5, A6, c6, A7, c7, A9, c9, A10, c10⟩ := r
                  dsimp only at e4
                  subst e4
                  have cS := h2.cell (i := 0) rfl
                  dsimp only [cells] at cS
                  have z4 := h2.ir_cell (i := 2) rfl HLV.out
                  clear h2
                  have hil : i < no := by have := HI3.out; omega
                  have d1 : decide (i < no) = true := decide_eq_true hil
                  have d2 : decide ((i : Int) < (no : Int)) = true := decide_eq_true (by omega)
                  have p1 : (i < no) = True := eq_true hil
                  have p2 : ((i : Int) < (no : Int)) = True := eq_true (by omega)
                  have p3 : (0 ≤ (i : Int)) = True := eq_true (by omega)
                  have p4 : (v < S2.level.length) = True := eq_true hvl
                  have p5 : ((v : Int) < (S2.level.length : Int)) = True := eq_true (by omega)
                  have p6 : (0 ≤ (v : Int)) = True := eq_true (by omega)
                  have p7 : ((1 : Int) < (no : Int)) = True := eq_true (by have := HI1.out; omega)
                  have p8 : (1 < no) = True := eq_true (by have := HI1.out; omega)
                  have hnb : (no : Int) ≤ 9223372036854775807 := by have := H0.out.ir_cap (i := 1) rfl; unfold maxLen at this; omega
                  have hi64 : (i : Int) ≤ 9223372036854775806 := by omega
                  have HOL := Aside0.mk (show out3.length = no ∧ i < no ∧ 1 < no by have := HI1.out; exact ⟨hol, hil, by omega⟩)
                  by_cases hlt : lv2 < n0
                  · rw [if_pos hlt] at h
                    have d3 : decide (lv2 < n0) = true := decide_eq_true hlt
                    obtain ⟨y1, hy1⟩ : ∃ y1, out3[1]? = some y1 := ⟨_, List.getElem?_eq_getElem (by have := HOL.out; omega)⟩
                    have z1 := H0.out.ir_cell (i := 1) rfl hy1
                    have hsw : Sat.swp out3 1 i = (out3.set 1 y).set i y1 := by
                      unfold Sat.swp
                      rw [show out3.getD i 0 = y by rw [List.getD_eq_getElem?_getD, hy]; rfl, show out3.getD 1 0 = y1 by rw [List.getD_eq_getElem?_getD, hy1]; rfl]
                    rw [hsw] at h
                    have HP2 := Aside0.mk h
                    have HY2 := Aside0.mk (show (out3.set 1 y)[i]? = some y by
                      rw [List.getElem?_set]
                      split
                      · rename_i e; subst e; rw [if_pos (by omega)]
                      · exact hy)
                    clear h hy hn0 hvl hol hv hvv hil hlt hy1 hsw hs5 hnn9
                    go_wp2_with fail
                    refine start_ (n := 12) (S := fun w' => w' = wr.drew) (ds := []) #[false, false, false, false, false, false, false, false, false, false, false, false] (by kernel_rfl) rfl rfl (rfl) (fun hHeld => ?_)
                    refine pure_ (i := 0) (N := some 129) (v := ?_) (a' := ?_) #[true, false, false, false, false, false, false, false, false, false, false, false] rfl rfl (by kernel_rfl) (fun _ _ _ h => h) (Or.inl ⟨by rfl, ?_⟩) ?_ ?_
                    rotate_left
                    · intro w'
                      go_simp
                      with_reducible rfl
                    rotate_left
                    · simp only [Act.put, List.setIfInBounds_toArray, List.set_cons_zero, List.set_cons_succ, i64_w, i32_w]
                      rfl
                    refine pure_ (i := 1) (N := some 130) (v := ?_) (a' := ?_) #[true, true, false, false, false, false, false, false, false, false, false, false] rfl rfl (by kernel_rfl) (fun _ _ _ h => h) (Or.inl ⟨by rfl, ?_⟩) ?_ ?_
                    rotate_left
                    · intro w'
                      go_simp
                      with_reducible rfl
                    rotate_left
                    · simp only [Act.put, List.setIfInBounds_toArray, List.set_cons_zero, List.set_cons_succ, i64_w, i32_w]
                      rfl
                    refine pure_ (i := 2) (N := some 131) (v := ?_) (a' := ?_) #[true, true, true, false, false, false, false, false, false, false, false, false] rfl rfl (by kernel_rfl) (fun _ _ _ h => h) (Or.inl ⟨by rfl, ?_⟩) ?_ ?_
                    rotate_left
                    · intro w'
                      go_simp
                      with_reducible rfl
                    rotate_left
                    · simp only [Act.put, List.setIfInBounds_toArray, List.set_cons_zero, List.set_cons_succ, i64_w, i32_w]
                      rfl
                    refine pure_ (i := 4) (N := some 133) (v := ?_) (a' := ?_) #[true, true, true, false, true, false, false, false, false, false, false, false] rfl rfl (by kernel_rfl) (fun _ _ _ h => h) (Or.inl ⟨by rfl, ?_⟩) ?_ ?_
                    rotate_left
                    · intro w'
                      go_simp
                      with_reducible rfl
                    rotate_left
                    · simp only [Act.put, List.setIfInBounds_toArray, List.set_cons_zero, List.set_cons_succ, i64_w, i32_w]
                      rfl
                    refine pure_ (i := 5) (N := some 134) (v := ?_) (a' := ?_) #[true, true, true, false, true, true, false, false, false, false, false, false] rfl rfl (by kernel_rfl) (fun _ _ _ h => h) (Or.inl ⟨by rfl, ?_⟩) ?_ ?_
                    rotate_left
                    · intro w'
                      go_simp
                      with_reducible rfl
                    rotate_left
                    · simp only [Act.put, List.setIfInBounds_toArray, List.set_cons_zero, List.set_cons_succ, i64_w, i32_w]
                      rfl
                    refine pure_ (i := 6) (N := some 135) (v := ?_) (a' := ?_) #[true, true, true, false, true, true, true, false, false, false, false, false] rfl rfl (by kernel_rfl) (fun _ _ _ h => h) (Or.inl ⟨by rfl, ?_⟩) ?_ ?_
                    rotate_left
                    · intro w'
                      go_simp
                      with_reducible rfl
                    rotate_left
                    · simp only [Act.put, List.setIfInBounds_toArray, List.set_cons_zero, List.set_cons_succ, i64_w, i32_w]
                      rfl
                    refine take_ (i := 3) (N := some 132) (v := ?_) (a' := ?_) #[true, true, true, true, true, true, true, false, false, false, false, false] rfl rfl (by kernel_rfl) (fun _ _ _ h => h) (Or.inl ⟨by rfl, ?_⟩) hHeld ?_ ?_
                    rotate_left
                    · intro w' s0
                      go_simp
                      with_reducible rfl
                    rotate_left
                    · simp only [Act.put, List.setIfInBounds_toArray, List.set_cons_zero, List.set_cons_succ, i64_w, i32_w]
                      rfl
                    refine take_ (i := 7) (N := some 136) (v := ?_) (a' := ?_) #[true, true, true, true, true, true, true, true, false, false, false, false] rfl rfl (by kernel_rfl) (fun _ _ _ h => h) (Or.inl ⟨by rfl, ?_⟩) hHeld ?_ ?_
                    rotate_left
                    · intro w' s0
                      go_simp
                      with_reducible rfl
                    rotate_left
                    · simp only [Act.put, List.setIfInBounds_toArray, List.set_cons_zero, List.set_cons_succ, i64_w, i32_w]
                      rfl
                    refine one_ (i := 8) (N := some 137) #[true, true, true, true, true, true, true, true, true, false, false, false] rfl rfl (by kernel_rfl) (by decide) (fun K hK => ?_)
                    refine goes_ Try.func26 (by kernel_rfl) rfl #[.int .i64 y] (by rfl) rfl rfl (by simp only [List.map_toArray, List.map_cons, List.map_nil]; rfl) ?_
                    with_reducible refine (q_varN y v HVV.out.1 _ HVV.out.2.1 HVV.out.2.2).mono ?_
                    rintro e w' ⟨rfl, rfl⟩
                    refine ⟨_, rfl, ?_⟩
                    refine hK.out _ _ (rfl) (fun hHeld => ?_)
                    clear hK K
                    refine norm_ (a' := ?_) ?_ ?_
                    rotate_left
                    · show Act.put _ (some 137) _ = _
                      simp only [Act.put, List.setIfInBounds_toArray, List.set_cons_zero, List.set_cons_succ, i64_w, i32_w]
                      rfl
                    refine pure_ (i := 9) (N := some 138) (v := ?_) (a' := ?_) #[true, true, true, true, true, true, true, true, true, true, false, false] rfl rfl (by kernel_rfl) (fun _ _ _ h => h) (Or.inl ⟨by rfl, ?_⟩) ?_ ?_
                    rotate_left
                    · intro w'
                      go_simp
                      with_reducible rfl
                    rotate_left
                    · simp only [Act.put, List.setIfInBounds_toArray, List.set_cons_zero, List.set_cons_succ, i64_w, i32_w]
                      rfl
                    refine take_ (i := 10) (N := some 139) (v := ?_) (a' := ?_) #[true, true, true, true, true, true, true, true, true, true, true, false] rfl rfl (by kernel_rfl) (fun _ _ _ h => h) (Or.inl ⟨by rfl, ?_⟩) hHeld ?_ ?_
                    rotate_left
                    · intro w' s0
                      go_simp
                      with_reducible rfl
                    rotate_left
                    · simp only [Act.put, List.setIfInBounds_toArray, List.set_cons_zero, List.set_cons_succ, i64_w, i32_w]
                      rfl
                    refine pure_ (i := 11) (N := some 17) (v := ?_) (a' := ?_) #[true, true, true, true, true, true, true, true, true, true, true, true] rfl rfl (by kernel_rfl) (fun _ _ _ h => h) (Or.inl ⟨by rfl, ?_⟩) ?_ ?_
                    rotate_left
                    · intro w'
                      go_simp
                      with_reducible rfl
                    rotate_left
                    · simp only [Act.put, List.setIfInBounds_toArray, List.set_cons_zero, List.set_cons_succ, i64_w, i32_w]
                      rfl
                    refine done_ (by kernel_rfl) ?_

                    go_wp2_with fail
                    refine start_ (n := 14) (S := fun w' => w' = wr.drew.drew) (ds := [11, 13]) #[false, false, false, false, false, false, false, false, false, false, false, false, false, false] (by kernel_rfl) rfl rfl (rfl) (fun hHeld => ?_)
                    refine pure_ (i := 0) (N := some 144) (v := ?_) (a' := ?_) #[true, false, false, false, false, false, false, false, false, false, false, false, false, false] rfl rfl (by kernel_rfl) (fun _ _ _ h => h) (Or.inl ⟨by rfl, ?_⟩) ?_ ?_
                    rotate_left
                    · intro w'
                      go_simp
                      with_reducible rfl
                    rotate_left
                    · simp only [Act.put, List.setIfInBounds_toArray, List.set_cons_zero, List.set_cons_succ, i64_w, i32_w]
                      rfl
                    refine pure_ (i := 1) (N := some 145) (v := ?_) (a' := ?_) #[true, true, false, false, false, false, false, false, false, false, false, false, false, false] rfl rfl (by kernel_rfl) (fun _ _ _ h => h) (Or.inl ⟨by rfl, ?_⟩) ?_ ?_
                    rotate_left
                    · intro w'
                      go_simp
                      with_reducible rfl
                    rotate_left
                    · simp only [Act.put, List.setIfInBounds_toArray, List.set_cons_zero, List.set_cons_succ, i64_w, i32_w]
                      rfl
                    refine pure_ (i := 2) (N := some 146) (v := ?_) (a' := ?_) #[true, true, true, false, false, false, false, false, false, false, false, false, false, false] rfl rfl (by kernel_rfl) (fun _ _ _ h => h) (Or.inl ⟨by rfl, ?_⟩) ?_ ?_
                    rotate_left
                    · intro w'
                      go_simp
                      with_reducible rfl
                    rotate_left
                    · simp only [Act.put, List.setIfInBounds_toArray, List.set_cons_zero, List.set_cons_succ, i64_w, i32_w]
                      rfl
                    refine pure_ (i := 3) (N := some 147) (v := ?_) (a' := ?_) #[true, true, true, true, false, false, false, false, false, false, false, false, false, false] rfl rfl (by kernel_rfl) (fun _ _ _ h => h) (Or.inl ⟨by rfl, ?_⟩) ?_ ?_
                    rotate_left
                    · intro w'
                      go_simp
                      with_reducible rfl
                    rotate_left
                    · simp only [Act.put, List.setIfInBounds_toArray, List.set_cons_zero, List.set_cons_succ, i64_w, i32_w]
                      rfl
                    refine pure_ (i := 4) (N := some 148) (v := ?_) (a' := ?_) #[true, true, true, true, true, false, false, false, false, false, false, false, false, false] rfl rfl (by kernel_rfl) (fun _ _ _ h => h) (Or.inl ⟨by rfl, ?_⟩) ?_ ?_
                    rotate_left
                    · intro w'
                      go_simp
                      with_reducible rfl
                    rotate_left
                    · simp only [Act.put, List.setIfInBounds_toArray, List.set_cons_zero, List.set_cons_succ, i64_w, i32_w]
                      rfl
                    refine pure_ (i := 5) (N := some 149) (v := ?_) (a' := ?_) #[true, true, true, true, true, true, false, false, false, false, false, false, false, false] rfl rfl (by kernel_rfl) (fun _ _ _ h => h) (Or.inl ⟨by rfl, ?_⟩) ?_ ?_
                    rotate_left
                    · intro w'
                      go_simp
                      with_reducible rfl
                    rotate_left
                    · simp only [Act.put, List.setIfInBounds_toArray, List.set_cons_zero, List.set_cons_succ, i64_w, i32_w]
                      rfl
                    refine pure_ (i := 7) (N := some 151) (v := ?_) (a' := ?_) #[true, true, true, true, true, true, false, true, false, false, false, false, false, false] rfl rfl (by kernel_rfl) (fun _ _ _ h => h) (Or.inl ⟨by rfl, ?_⟩) ?_ ?_
                    rotate_left
                    · intro w'
                      go_simp
                      with_reducible rfl
                    rotate_left
                    · simp only [Act.put, List.setIfInBounds_toArray, List.set_cons_zero, List.set_cons_succ, i64_w, i32_w]
                      rfl
                    refine pure_ (i := 8) (N := some 152) (v := ?_) (a' := ?_) #[true, true, true, true, true, true, false, true, true, false, false, false, false, false] rfl rfl (by kernel_rfl) (fun _ _ _ h => h) (Or.inl ⟨by rfl, ?_⟩) ?_ ?_
                    rotate_left
                    · intro w'
                      go_simp
                      with_reducible rfl
                    rotate_left
                    · simp only [Act.put, List.setIfInBounds_toArray, List.set_cons_zero, List.set_cons_succ, i64_w, i32_w]
                      rfl
                    refine take_ (i := 6) (N := some 150) (v := ?_) (a' := ?_) #[true, true, true, true, true, true, true, true, true, false, false, false, false, false] rfl rfl (by kernel_rfl) (fun _ _ _ h => h) (Or.inl ⟨by rfl, ?_⟩) hHeld ?_ ?_
                    rotate_left
                    · intro w' s0
                      go_simp
                      with_reducible rfl
                    rotate_left
                    · simp only [Act.put, List.setIfInBounds_toArray, List.set_cons_zero, List.set_cons_succ, i64_w, i32_w]
                      rfl
                    refine take_ (i := 9) (N := some 153) (v := ?_) (a' := ?_) #[true, true, true, true, true, true, true, true, true, true, false, false, false, false] rfl rfl (by kernel_rfl) (fun _ _ _ h => h) (Or.inl ⟨by rfl, ?_⟩) hHeld ?_ ?_
                    rotate_left
                    · intro w' s0
                      go_simp
                      with_reducible rfl
                    rotate_left
                    · simp only [Act.put, List.setIfInBounds_toArray, List.set_cons_zero, List.set_cons_succ, i64_w, i32_w]
                      rfl
                    refine pure_ (i := 10) (N := some 154) (v := ?_) (a' := ?_) #[true, true, true, true, true, true, true, true, true, true, true, false, false, false] rfl rfl (by kernel_rfl) (fun _ _ _ h => h) (Or.inl ⟨by rfl, ?_⟩) ?_ ?_
                    rotate_left
                    · intro w'
                      go_simp
                      with_reducible rfl
                    rotate_left
                    · simp only [Act.put, List.setIfInBounds_toArray, List.set_cons_zero, List.set_cons_succ, i64_w, i32_w]
                      rfl
                    refine last_ (i := 11) (N := none) #[true, true, true, true, true, true, true, true, true, true, true, true, false, false] rfl rfl (by kernel_rfl) (by decide) (fun K hK => ?_)
                    refine st_set (by rfl) rfl H0.out.drew.drew (i := 1) rfl 1 y (by have := HOL.out; omega) ?hr ?_
                    (case hr => first | (go_simp; done) | (go_simp; rfl))
                    intro w30_ H1
                    clear H0 cS z4 zy z1 fo
                    have H0 := Aside0.mk (show St w U w30_ [solG b S2 (S.l.map .own) (ownE S.watch), ir (some ⟨go2, 0, none⟩) no co2 (out3.set 1 y), ms gM seen2] from H1)
                    clear H1
                    have zy := H0.out.ir_cell (i := 1) rfl HY2.out
                    have fo := H0.out.ir_frz (i := 1) rfl
                    refine hK.out _ _ ?_
                    clear hK K
                    refine pure_ (i := 12) (N := some 155) (v := ?_) (a' := ?_) #[true, true, true, true, true, true, true, true, true, true, true, true, true, false] rfl rfl (by kernel_rfl) (fun _ _ _ h => h) (Or.inl ⟨by rfl, ?_⟩) ?_ ?_
                    rotate_left
                    · intro w'
                      go_simp
                      with_reducible rfl
                    rotate_left
                    · simp only [Act.put, List.setIfInBounds_toArray, List.set_cons_zero, List.set_cons_succ, i64_w, i32_w]
                      rfl
                    refine last_ (i := 13) (N := none) #[true, true, true, true, true, true, true, true, true, true, true, true, true, true] rfl rfl (by kernel_rfl) (by decide) (fun K hK => ?_)
                    refine st_set (by rfl) rfl H0.out (i := 1) rfl i y1 (by have := HOL.out; omega) ?hr2 ?_
                    (case hr2 => first | (go_simp; done) | (go_simp; rfl))
                    intro w31_ H1
                    clear H0 zy fo
                    have H0 := Aside0.mk (show St w U w31_ [solG b S2 (S.l.map .own) (ownE S.watch), ir (some ⟨go2, 0, none⟩) no co2 ((out3.set 1 y).set i y1), ms gM seen2] from H1)
                    clear H1
                    refine hK.out _ _ ?_
                    clear hK K
                    refine done_ (by kernel_rfl) ?_

                    go_wp2_with fail
                    go_roundg k4
                    case measure => have := HQ3.out; omega
                    case rel => exact ⟨i + 1, dd, n0, _, rfl, by go_num, ⟨by have := HI3.out; omega⟩, ⟨by have := HQ3.out; omega⟩, ⟨by have := HI1.out; omega⟩, HP2, H0⟩
                  · rw [if_neg hlt] at h
                    have HP2 := Aside0.mk h
                    have d3 : decide (lv2 < n0) = false := decide_eq_false hlt
                    clear h hy hn0 hvl hol hv hvv hil hlt hs5 hnn9
                    go_wp2_with fail
                    refine start_ (n := 12) (S := fun w' => w' = wr.drew) (ds := []) #[false, false, false, false, false, false, false, false, false, false, false, false] (by kernel_rfl) rfl rfl (rfl) (fun hHeld => ?_)
                    refine pure_ (i := 0) (N := some 129) (v := ?_) (a' := ?_) #[true, false, false, false, false, false, false, false, false, false, false, false] rfl rfl (by kernel_rfl) (fun _ _ _ h => h) (Or.inl ⟨by rfl, ?_⟩) ?_ ?_
                    rotate_left
                    · intro w'
                      go_simp
                      with_reducible rfl
                    rotate_left
                    · simp only [Act.put, List.setIfInBounds_toArray, List.set_cons_zero, List.set_cons_succ, i64_w, i32_w]
                      rfl
                    refine pure_ (i := 1) (N := some 130) (v := ?_) (a' := ?_) #[true, true, false, false, false, false, false, false, false, false, false, false] rfl rfl (by kernel_rfl) (fun _ _ _ h => h) (Or.inl ⟨by rfl, ?_⟩) ?_ ?_
                    rotate_left
                    · intro w'
                      go_simp
                      with_reducible rfl
                    rotate_left
                    · simp only [Act.put, List.setIfInBounds_toArray, List.set_cons_zero, List.set_cons_succ, i64_w, i32_w]
                      rfl
                    refine pure_ (i := 2) (N := some 131) (v := ?_) (a' := ?_) #[true, true, true, false, false, false, false, false, false, false, false, false] rfl rfl (by kernel_rfl) (fun _ _ _ h => h) (Or.inl ⟨by rfl, ?_⟩) ?_ ?_
                    rotate_left
                    · intro w'
                      go_simp
                      with_reducible rfl
                    rotate_left
                    · simp only [Act.put, List.setIfInBounds_toArray, List.set_cons_zero, List.set_cons_succ, i64_w, i32_w]
                      rfl
                    refine pure_ (i := 4) (N := some 133) (v := ?_) (a' := ?_) #[true, true, true, false, true, false, false, false, false, false, false, false] rfl rfl (by kernel_rfl) (fun _ _ _ h => h) (Or.inl ⟨by rfl, ?_⟩) ?_ ?_
                    rotate_left
                    · intro w'
                      go_simp
                      with_reducible rfl
                    rotate_left
                    · simp only [Act.put, List.setIfInBounds_toArray, List.set_cons_zero, List.set_cons_succ, i64_w, i32_w]
                      rfl
                    refine pure_ (i := 5) (N := some 134) (v := ?_) (a' := ?_) #[true, true, true, false, true, true, false, false, false, false, false, false] rfl rfl (by kernel_rfl) (fun _ _ _ h => h) (Or.inl ⟨by rfl, ?_⟩) ?_ ?_
                    rotate_left
                    · intro w'
                      go_simp
                      with_reducible rfl
                    rotate_left
                    · simp only [Act.put, List.setIfInBounds_toArray, List.set_cons_zero, List.set_cons_succ, i64_w, i32_w]
                      rfl
                    refine pure_ (i := 6) (N := some 135) (v := ?_) (a' := ?_) #[true, true, true, false, true, true, true, false, false, false, false, false] rfl rfl (by kernel_rfl) (fun _ _ _ h => h) (Or.inl ⟨by rfl, ?_⟩) ?_ ?_
                    rotate_left
                    · intro w'
                      go_simp
                      with_reducible rfl
                    rotate_left
                    · simp only [Act.put, List.setIfInBounds_toArray, List.set_cons_zero, List.set_cons_succ, i64_w, i32_w]
                      rfl
                    refine take_ (i := 3) (N := some 132) (v := ?_) (a' := ?_) #[true, true, true, true, true, true, true, false, false, false, false, false] rfl rfl (by kernel_rfl) (fun _ _ _ h => h) (Or.inl ⟨by rfl, ?_⟩) hHeld ?_ ?_
                    rotate_left
                    · intro w' s0
                      go_simp
                      with_reducible rfl
                    rotate_left
                    · simp only [Act.put, List.setIfInBounds_toArray, List.set_cons_zero, List.set_cons_succ, i64_w, i32_w]
                      rfl
                    refine take_ (i := 7) (N := some 136) (v := ?_) (a' := ?_) #[true, true, true, true, true, true, true, true, false, false, false, false] rfl rfl (by kernel_rfl) (fun _ _ _ h => h) (Or.inl ⟨by rfl, ?_⟩) hHeld ?_ ?_
                    rotate_left
                    · intro w' s0
                      go_simp
                      with_reducible rfl
                    rotate_left
                    · simp only [Act.put, List.setIfInBounds_toArray, List.set_cons_zero, List.set_cons_succ, i64_w, i32_w]
                      rfl
                    refine one_ (i := 8) (N := some 137) #[true, true, true, true, true, true, true, true, true, false, false, false] rfl rfl (by kernel_rfl) (by decide) (fun K hK => ?_)
                    refine goes_ Try.func26 (by kernel_rfl) rfl #[.int .i64 y] (by rfl) rfl rfl (by simp only [List.map_toArray, List.map_cons, List.map_nil]; rfl) ?_
                    with_reducible refine (q_varN y v HVV.out.1 _ HVV.out.2.1 HVV.out.2.2).mono ?_
                    rintro e w' ⟨rfl, rfl⟩
                    refine ⟨_, rfl, ?_⟩
                    refine hK.out _ _ (rfl) (fun hHeld => ?_)
                    clear hK K
                    refine norm_ (a' := ?_) ?_ ?_
                    rotate_left
                    · show Act.put _ (some 137) _ = _
                      simp only [Act.put, List.setIfInBounds_toArray, List.set_cons_zero, List.set_cons_succ, i64_w, i32_w]
                      rfl
                    refine pure_ (i := 9) (N := some 138) (v := ?_) (a' := ?_) #[true, true, true, true, true, true, true, true, true, true, false, false] rfl rfl (by kernel_rfl) (fun _ _ _ h => h) (Or.inl ⟨by rfl, ?_⟩) ?_ ?_
                    rotate_left
                    · intro w'
                      go_simp
                      with_reducible rfl
                    rotate_left
                    · simp only [Act.put, List.setIfInBounds_toArray, List.set_cons_zero, List.set_cons_succ, i64_w, i32_w]
                      rfl
                    refine take_ (i := 10) (N := some 139) (v := ?_) (a' := ?_) #[true, true, true, true, true, true, true, true, true, true, true, false] rfl rfl (by kernel_rfl) (fun _ _ _ h => h) (Or.inl ⟨by rfl, ?_⟩) hHeld ?_ ?_
                    rotate_left
                    · intro w' s0
                      go_simp
                      with_reducible rfl
                    rotate_left
                    · simp only [Act.put, List.setIfInBounds_toArray, List.set_cons_zero, List.set_cons_succ, i64_w, i32_w]
                      rfl
                    refine pure_ (i := 11) (N := some 17) (v := ?_) (a' := ?_) #[true, true, true, true, true, true, true, true, true, true, true, true] rfl rfl (by kernel_rfl) (fun _ _ _ h => h) (Or.inl ⟨by rfl, ?_⟩) ?_ ?_
                    rotate_left
                    · intro w'
                      go_simp
                      with_reducible rfl
                    rotate_left
                    · simp only [Act.put, List.setIfInBounds_toArray, List.set_cons_zero, List.set_cons_succ, i64_w, i32_w]
                      rfl
                    refine done_ (by kernel_rfl) ?_

                    go_wp2_with fail
                    go_roundg k4
                    case measure => have := HQ3.out; omega
                    case rel => exact ⟨i + 1, dd, lv2, out3, rfl, by go_num, ⟨by have := HI3.out; omega⟩, ⟨by have := HQ3.out; omega⟩, ⟨by have := HI1.out; omega⟩, HP2, ⟨H0.out.drew⟩⟩
            · have h9 := HX2.out
              rw [if_neg hz] at h9
              obtain ⟨k', hk'⟩ : ∃ k', S2.why[x2.natAbs]? = some k' := by
                match hq : S2.why[x2.natAbs]? with
                | none => rw [hq] at h9; cases h9
                | some z => exact ⟨z, rfl⟩
              rw [hk'] at h9
              dsimp only at h9
              rw [← hu] at hk'
              have HR2 := Aside0.mk h9
              have hwl := (List.getElem?_eq_some_iff.1 hk').1
              have hwlen : S2.why.length = n := by rw [HS2.out.why]; exact HN.out.1.w
              have hnn9 := HN.out.2.1
              have HWP := Aside0.mk (show 0 < S2.why.length by omega)
              have HWV := Aside0.mk hk'
              clear cS z9
              obtain ⟨r, h2⟩ := st_open H0.out
              obtain ⟨g5, e5⟩ := h2.ir_some (i := 3) rfl HWP.out
              obtain ⟨g9', e9'⟩ := h2.ir_some (i := 6) rfl HTP.out
              obtain ⟨A0, c0, gw, A3, c3, A4, c4, A5, c5, A6, c6, A7, c7, A9, c9, A10, c10⟩ := r
              dsimp only at e5 e9'
              subst e5 e9'
              have cS := h2.cell (i := 0) rfl
              dsimp only [cells] at cS
              have z5 := h2.ir_cell (i := 3) rfl HWV.out
              have z9 := h2.ir_cell (i := 6) rfl HZ9.out
              have q4 : (u < S2.why.length) = True := eq_true hwl
              have q5 : ((u : Int) < (S2.why.length : Int)) = True := eq_true (by omega)
              have q6 : (0 ≤ (u : Int)) = True := eq_true (by omega)
              have d3 : (op2 - 1 == 0) = false := beq_eq_false_iff_ne.2 hz
              clear h h9 hx2 hu hql hus htl hz h2 hk' hwl hwlen hnn9
              go_wp2_with (first
                | (go_at_call 26; (with_reducible refine (q_variable x2 _ HXB.out.1 HXB.out.2).mono ?_); rintro e w' ⟨rfl, rfl⟩; rw [HU.out]))
              refine start_ (n := 9) (S := fun w' => w' = wr.drew) (ds := []) #[false, false, false, false, false, false, false, false, false] (by kernel_rfl) rfl rfl (rfl) (fun hHeld => ?_)
              refine pure_ (i := 0) (N := some 115) (v := ?_) (a' := ?_) #[true, false, false, false, false, false, false, false, false] rfl rfl (by kernel_rfl) (fun _ _ _ h => h) (Or.inl ⟨by rfl, ?_⟩) ?_ ?_
              rotate_left
              · intro w'
                go_simp
                with_reducible rfl
              rotate_left
              · simp only [Act.put, List.setIfInBounds_toArray, List.set_cons_zero, List.set_cons_succ, i64_w, i32_w]
                rfl
              refine pure_ (i := 1) (N := some 116) (v := ?_) (a' := ?_) #[true, true, false, false, false, false, false, false, false] rfl rfl (by kernel_rfl) (fun _ _ _ h => h) (Or.inl ⟨by rfl, ?_⟩) ?_ ?_
              rotate_left
              · intro w'
                go_simp
                with_reducible rfl
              rotate_left
              · simp only [Act.put, List.setIfInBounds_toArray, List.set_cons_zero, List.set_cons_succ, i64_w, i32_w]
                rfl
              refine pure_ (i := 2) (N := some 117) (v := ?_) (a' := ?_) #[true, true, true, false, false, false, false, false, false] rfl rfl (by kernel_rfl) (fun _ _ _ h => h) (Or.inl ⟨by rfl, ?_⟩) ?_ ?_
              rotate_left
              · intro w'
                go_simp
                with_reducible rfl
              rotate_left
              · simp only [Act.put, List.setIfInBounds_toArray, List.set_cons_zero, List.set_cons_succ, i64_w, i32_w]
                rfl
              refine pure_ (i := 4) (N := some 119) (v := ?_) (a' := ?_) #[true, true, true, false, true, false, false, false, false] rfl rfl (by kernel_rfl) (fun _ _ _ h => h) (Or.inl ⟨by rfl, ?_⟩) ?_ ?_
              rotate_left
              · intro w'
                go_simp
                with_reducible rfl
              rotate_left
              · simp only [Act.put, List.setIfInBounds_toArray, List.set_cons_zero, List.set_cons_succ, i64_w, i32_w]
                rfl
              refine take_ (i := 3) (N := some 118) (v := ?_) (a' := ?_) #[true, true, true, true, true, false, false, false, false] rfl rfl (by kernel_rfl) (fun _ _ _ h => h) (Or.inl ⟨by rfl, ?_⟩) hHeld ?_ ?_
              rotate_left
              · intro w' s0
                go_simp
                with_reducible rfl
              rotate_left
              · simp only [Act.put, List.setIfInBounds_toArray, List.set_cons_zero, List.set_cons_succ, i64_w, i32_w]
                rfl
              refine one_ (i := 5) (N := some 120) #[true, true, true, true, true, true, false, false, false] rfl rfl (by kernel_rfl) (by decide) (fun K hK => ?_)
              refine goes_ Try.func26 (by kernel_rfl) rfl #[.int .i64 x2] (by rfl) rfl rfl (by simp only [List.map_toArray, List.map_cons, List.map_nil]; rfl) ?_
              with_reducible refine (q_varN x2 u HU.out _ HXB.out.1 HXB.out.2).mono ?_
              rintro e w' ⟨rfl, rfl⟩
              refine ⟨_, rfl, ?_⟩
              refine hK.out _ _ (rfl) (fun hHeld => ?_)
              clear hK K
              refine norm_ (a' := ?_) ?_ ?_
              rotate_left
              · show Act.put _ (some 120) _ = _
                simp only [Act.put, List.setIfInBounds_toArray, List.set_cons_zero, List.set_cons_succ, i64_w, i32_w]
                rfl
              refine pure_ (i := 6) (N := some 121) (v := ?_) (a' := ?_) #[true, true, true, true, true, true, true, false, false] rfl rfl (by kernel_rfl) (fun _ _ _ h => h) (Or.inl ⟨by rfl, ?_⟩) ?_ ?_
              rotate_left
              · intro w'
                go_simp
                with_reducible rfl
              rotate_left
              · simp only [Act.put, List.setIfInBounds_toArray, List.set_cons_zero, List.set_cons_succ, i64_w, i32_w]
                rfl
              refine take_ (i := 7) (N := some 122) (v := ?_) (a' := ?_) #[true, true, true, true, true, true, true, true, false] rfl rfl (by kernel_rfl) (fun _ _ _ h => h) (Or.inl ⟨by rfl, ?_⟩) hHeld ?_ ?_
              rotate_left
              · intro w' s0
                go_simp
                with_reducible rfl
              rotate_left
              · simp only [Act.put, List.setIfInBounds_toArray, List.set_cons_zero, List.set_cons_succ, i64_w, i32_w]
                rfl
              refine pure_ (i := 8) (N := some 1) (v := ?_) (a' := ?_) #[true, true, true, true, true, true, true, true, true] rfl rfl (by kernel_rfl) (fun _ _ _ h => h) (Or.inl ⟨by rfl, ?_⟩) ?_ ?_
              rotate_left
              · intro w'
                go_simp
                with_reducible rfl
              rotate_left
              · simp only [Act.put, List.setIfInBounds_toArray, List.set_cons_zero, List.set_cons_succ, i64_w, i32_w]
                rfl
              refine done_ (by kernel_rfl) ?_

              go_wp2_with fail
              go_roundg k1
              case measure => have := HQ.out; omega
              case rel => exact ⟨f1, q, k', op2 - 1, (q : Int) - 1, S2, out2, seen2, Ao2, co2, rfl, rfl, rfl, rfl, ⟨rfl⟩, ⟨Nat.lt_of_succ_lt_succ HQ.out⟩, HR2, HS2, HQN, ⟨H0.out.drew⟩⟩
          · rw [if_neg hus] at h
            have HD2 := Aside0.mk h
            have hlk : (Instr.lookup 86 (.map (some gM)) (.int .i64 (u : Int)) false).run Try.prog wr = .ok (.bool false) wr := by
              have := H0.out.ms_lookup (i := 2) rfl Try.underlying86 Try.underlying3 zeroB (u : Int)
              rwa [decide_eq_false hus] at this
            clear h hx2 hu hql hus htl
            go_wp2_with (first
              | (go_at_call 26; (with_reducible refine (q_variable x2 _ HXB.out.1 HXB.out.2).mono ?_); rintro e w' ⟨rfl, rfl⟩; rw [HU.out]))
            go_roundg k3
            case measure => have := HQ2.out; omega
            case rel => exact ⟨q, _, rfl, ⟨rfl⟩, ⟨by have := HQL.out; omega⟩, ⟨by have := HQ2.out; omega⟩, HD2, H0⟩
end Go.Proofs.Ytckimhhncpnkpaa.H
/- conflict. -/
namespace Go.Proofs.Ytckimhhncpnkpaa.H
set_option linter.unusedSimpArgs false
set_option linter.unusedVariables false
open Go.RowKit Go.Proofs.YtckimhhncpnkpaaW.PrintWords Go.Proofs.YtckimhhncpnkpaaW.PrintLast Go.Proofs.YtckimhhncpnkpaaW.PrintMore Go.Proofs.Ytckimhhncpnkpaa.Sep Go.Proofs.Ytckimhhncpnkpaa.Sat
theorem lits_same (here : Int) : ∀ (l : List Int) (R R' : Lrn), Sat.lits here l R = some R' → Same R.S R'.S
  | [], R, R', h => by cases h; exact Same.refl _
  | y :: r, R, R', h => by
    rw [Sat.lits] at h
    repeat' (split at h)
    all_goals first
      | (cases h; done)
      | exact lits_same here r _ _ h
      | exact (Same.touch _ _).trans (lits_same here r _ _ h)
theorem resolve_same (here : Int) : ∀ (f : Nat) (k : Int) (nn : Nat) (R R' : Lrn), Sat.resolve here f k nn R = some R' → Same R.S R'.S
  | 0, _, _, _, _, h => by cases h
  | f + 1, k, nn, R, R', h => by
    rw [Sat.resolve] at h
    split at h
    · cases h
    split at h
    · cases h
    split at h
    · cases h
    rename_i R1 e1
    have g := lits_same here _ _ _ e1
    split at h
    · cases h
    split at h
    · cases h
    split at h
    · cases h
    split at h
    · cases h; exact g
    split at h
    · cases h
    · have g2 := resolve_same here f _ _ _ _ h
      exact g.trans g2
theorem wrap_in (a : Int) : wrap64 (wrap64 a + 1) = wrap64 (a + 1) := by unfold wrap64; omega
theorem learn_same {S S' : Sol} {f : Nat} {k lv : Int} {out : List Int} (h : S.learn f k = some (S', out, lv)) : Same S S' := by
  unfold Sol.learn at h
  split at h
  · cases h
  · rename_i R hR
    split at h
    · cases h
    · cases h
      exact resolve_same _ _ _ _ _ _ hR
theorem keep_giveG {w0 w : World} {U : Nat → Prop} {b : Nat} {S T : Sol} {A : Option Addr} {n c : Nat} {xs : List Int} {L : List Ch} (hT : T.l = S.l ++ [xs]) (h : St w0 U w (solG b T (S.l.map .own ++ [.bare A n c]) (ownE T.watch) :: ir A n c xs :: L)) : St w0 U w (sol b T :: L) := by
  have h2 := st_give (j := S.l.length) (by rw [List.getElem?_append_right (by rw [List.length_map]; exact Nat.le_refl _), List.length_map, Nat.sub_self]; rfl) h
  rw [List.set_append_right _ _ (by rw [List.length_map]; exact Nat.le_refl _), List.length_map, Nat.sub_self] at h2
  have e : T.l.map En.own = S.l.map .own ++ [.own xs] := by rw [hT]; simp only [List.map_append, List.map_cons, List.map_nil]
  unfold sol
  rw [e]
  exact h2
open Classical in
set_option maxHeartbeats 4000000 in
set_option maxRecDepth 100000 in
theorem q_conflict {w : World} {b : Nat} {S S' : Sol} {n : Nat} {k : Int} (h : S.conflict k = some S') (h5 : Five S n) (hn : n ≤ 1000000000) (ht : S.trail.length ≤ 1000000000) (hst : S.starts.length ≤ 1000000000) (hll : S.l.length ≤ 1000000000) :
    Does Try.prog 45 #[.pointer (some ⟨b, 0, none⟩), .int .i64 k] w [sol b S] fun e L => e = .returned (.tuple #[]) ∧ L = [sol b S'] := by
  have mixed : Try.prog.follows Departure.mixedOrders = true := by kernel_rfl
  refine does_intro fun U hs => ?_
  have H0 := Aside0.mk hs
  obtain ⟨r, h2⟩ := st_open hs
  obtain ⟨A0, c0, gw, A3, c3, A4, c4, A5, c5, A6, c6, A7, c7, A9, c9, A10, c10⟩ := r
  have H := Aside0.mk (show St w U w [blk b #[.slice A0 S.l.length c0, .int .i64 S.added, .map (some gw), .slice A3 S.is.length c3, .slice A4 S.level.length c4, .slice A5 S.why.length c5, .slice A6 S.act.length c6, .slice A7 S.last.length c7, .int .i64 S.bump, .slice A9 S.trail.length c9, .slice A10 S.starts.length c10, .int .i64 S.next, .int .i64 S.vars, .bool S.nothing] 50, ir A3 S.is.length c3 S.is, ir A4 S.level.length c4 S.level, ir A5 S.why.length c5 S.why, ir A6 S.act.length c6 S.act, ir A7 S.last.length c7 S.last, ir A9 S.trail.length c9 S.trail, ir A10 S.starts.length c10 S.starts, rr A0 S.l.length c0 (S.l.map .own), wm gw (ownE S.watch)] from h2)
  unfold Sol.conflict at h
  by_cases h0 : S.starts.length = 0
  · rw [if_pos h0] at h
    cases h
    have d1 : ((S.starts.length : Int) == 0) = true := beq_iff_eq.2 (by omega)
    have d2 : (S.starts.length == 0) = true := beq_iff_eq.2 h0
    clear h2 hs H0 h0 h5 hn ht hst hll
    have cS := H.out.cell (i := 0) rfl
    have fS := H.out.frz (i := 0) rfl
    go_enter Try.func45, Try.ntmps45
    go_wp2_with (first
      | ((with_reducible refine gate_store (t := 4) (p := 14) (v := .const (.bool true)) rfl ?_); refine ev_store rfl H.out (i := 0) rfl 13 (.bool true) rfl ?hr ?_; (case hr => first | (go_simp; done) | (go_simp; rfl)); intro w1_ H1; clear H cS fS; have H := Aside0.mk (show St w U w1_ [blk b #[.slice A0 S.l.length c0, .int .i64 S.added, .map (some gw), .slice A3 S.is.length c3, .slice A4 S.level.length c4, .slice A5 S.why.length c5, .slice A6 S.act.length c6, .slice A7 S.last.length c7, .int .i64 S.bump, .slice A9 S.trail.length c9, .slice A10 S.starts.length c10, .int .i64 S.next, .int .i64 S.vars, .bool true] 50, ir A3 S.is.length c3 S.is, ir A4 S.level.length c4 S.level, ir A5 S.why.length c5 S.why, ir A6 S.act.length c6 S.act, ir A7 S.last.length c7 S.last, ir A9 S.trail.length c9 S.trail, ir A10 S.starts.length c10 S.starts, rr A0 S.l.length c0 (S.l.map .own), wm gw (ownE S.watch)] from H1); clear H1))
    refine bodyPost_ret (v := .tuple #[]) (results_none (by rfl) _ _ _) rfl ?_
    exact ⟨[sol b _], ⟨rfl, rfl⟩, st_shut (S := { S with nothing := true }) ⟨A0, c0, gw, A3, c3, A4, c4, A5, c5, A6, c6, A7, c7, A9, c9, A10, c10⟩ H.out⟩
  · rw [if_neg h0] at h
    obtain ⟨S1, l, lv, hL⟩ : ∃ S1 l lv, S.learn (S.trail.length + 1) k = some (S1, l, lv) := by
      match hq : S.learn (S.trail.length + 1) k with
      | none => rw [hq] at h; cases h
      | some (a1, a2, a3) => exact ⟨a1, a2, a3, rfl⟩
    rw [hL] at h
    dsimp only at h
    by_cases hc : 0 ≤ lv ∧ S1.mayBack lv.toNat
    case neg => rw [if_neg hc] at h; cases h
    rw [if_pos hc] at h
    obtain ⟨m, rfl⟩ : ∃ m : Nat, lv = (m : Int) := ⟨lv.toNat, by have := hc.1; omega⟩
    rw [Int.toNat_natCast] at h hc
    have hsm := learn_same hL
    obtain ⟨S3, hS3⟩ : ∃ S3, S3 = S1.back m := ⟨_, rfl⟩
    rw [← hS3] at h
    obtain ⟨S2, hS2⟩ : ∃ S2, S2 = S3.bumped := ⟨_, rfl⟩
    rw [← hS2] at h
    obtain ⟨x, hx, hll1, h⟩ : ∃ x, l[0]? = some x ∧ 1 ≤ l.length ∧ (if l.length = 1 then (if S2.mayPut x then some (S2.put x (-1)) else none) else if S2.mayKeep ∧ (S2.keep l).mayPut x then some ((S2.keep l).put x S2.l.length) else none) = some S' := by
      cases l with
      | nil => cases h
      | cons x r =>
        refine ⟨x, rfl, by rw [List.length_cons]; omega, ?_⟩
        dsimp only at h
        by_cases hr : r.length = 0
        · rw [if_pos hr] at h; rw [if_pos (by rw [List.length_cons]; omega)]; exact h
        · rw [if_neg hr] at h; rw [if_neg (by rw [List.length_cons]; omega)]; exact h
    have HL := Aside0.mk hL
    have HB := Aside0.mk (And.intro h5 (And.intro hn (And.intro ht (And.intro hst hll))))
    have HM := Aside0.mk (show S1.mayBack m ∧ S1.starts.length ≤ 1000000000 from ⟨hc.2, by rw [hsm.starts]; exact hst⟩)
    have HS3 := Aside0.mk hS3
    have HS2 := Aside0.mk hS2
    have HX := Aside0.mk hx
    have HR := Aside0.mk h
    have HLL := Aside0.mk hll1
    have d1 : ((S.starts.length : Int) == 0) = false := beq_eq_false_iff_ne.2 (by omega)
    have d2 : (S.starts.length == 0) = false := beq_eq_false_iff_ne.2 h0
    clear h2 hs h0 h5 hn ht hst hll hL hc hsm hS3 hS2 hx h hll1
    have cS := H.out.cell (i := 0) rfl
    have fS := H.out.frz (i := 0) rfl
    clear H
    go_enter Try.func45, Try.ntmps45
    go_wp2_with (first
      | (go_at_call 50; (refine (St.does (L1 := [sol b S]) (L2 := []) H0.out (q_learn HL.out HB.out.1 HB.out.2.1 HB.out.2.2.1 HB.out.2.2.2.1 HB.out.2.2.2.2)).mono ?_); rintro e w1_ ⟨L1', ⟨A, c, rfl, rfl⟩, H1⟩; clear H0 cS fS; have H0 := Aside0.mk (show St w U w1_ [sol b S1, ir A l.length c l] from H1); clear H1)
      | (go_at_call 29; (refine (St.does (L1 := [sol b S1]) (L2 := [ir A l.length c l]) H0.out (q_back m HM.out.1 HM.out.2)).mono ?_); rintro e w2_ ⟨L1', ⟨rfl, rfl⟩, H1⟩; clear H0; rw [← HS3.out] at H1; have H0 := Aside0.mk (show St w U w2_ [sol b S3, ir A l.length c l] from H1); clear H1))
    obtain ⟨r, h2⟩ := st_open H0.out
    obtain ⟨A0, c0, gw, A3, c3, A4, c4, A5, c5, A6, c6, A7, c7, A9, c9, A10, c10⟩ := r
    have H := Aside0.mk (show St w U w2_ [blk b #[.slice A0 S3.l.length c0, .int .i64 S3.added, .map (some gw), .slice A3 S3.is.length c3, .slice A4 S3.level.length c4, .slice A5 S3.why.length c5, .slice A6 S3.act.length c6, .slice A7 S3.last.length c7, .int .i64 S3.bump, .slice A9 S3.trail.length c9, .slice A10 S3.starts.length c10, .int .i64 S3.next, .int .i64 S3.vars, .bool S3.nothing] 50, ir A3 S3.is.length c3 S3.is, ir A4 S3.level.length c4 S3.level, ir A5 S3.why.length c5 S3.why, ir A6 S3.act.length c6 S3.act, ir A7 S3.last.length c7 S3.last, ir A9 S3.trail.length c9 S3.trail, ir A10 S3.starts.length c10 S3.starts, rr A0 S3.l.length c0 (S3.l.map .own), wm gw (ownE S3.watch), ir A l.length c l] from h2)
    clear h2 H0
    have cS := H.out.cell (i := 0) rfl
    have fS := H.out.frz (i := 0) rfl
    refine start_ (n := 14) (S := fun w' => w' = w2_.drew) (ds := [13]) #[false, false, false, false, false, false, false, false, false, false, false, false, false, false] (by kernel_rfl) rfl rfl (rfl) (fun hHeld => ?_)
    refine pure_ (i := 0) (N := some 24) (v := ?_) (a' := ?_) #[true, false, false, false, false, false, false, false, false, false, false, false, false, false] rfl rfl (by kernel_rfl) (fun _ _ _ h => h) (Or.inl ⟨by rfl, ?_⟩) ?_ ?_
    rotate_left
    · intro w'
      go_simp
      with_reducible rfl
    rotate_left
    · simp only [Act.put, List.setIfInBounds_toArray, List.set_cons_zero, List.set_cons_succ, i64_w, i32_w]
      rfl
    refine pure_ (i := 1) (N := some 25) (v := ?_) (a' := ?_) #[true, true, false, false, false, false, false, false, false, false, false, false, false, false] rfl rfl (by kernel_rfl) (fun _ _ _ h => h) (Or.inl ⟨by rfl, ?_⟩) ?_ ?_
    rotate_left
    · intro w'
      go_simp
      with_reducible rfl
    rotate_left
    · simp only [Act.put, List.setIfInBounds_toArray, List.set_cons_zero, List.set_cons_succ, i64_w, i32_w]
      rfl
    refine pure_ (i := 2) (N := some 26) (v := ?_) (a' := ?_) #[true, true, true, false, false, false, false, false, false, false, false, false, false, false] rfl rfl (by kernel_rfl) (fun _ _ _ h => h) (Or.inl ⟨by rfl, ?_⟩) ?_ ?_
    rotate_left
    · intro w'
      go_simp
      with_reducible rfl
    rotate_left
    · simp only [Act.put, List.setIfInBounds_toArray, List.set_cons_zero, List.set_cons_succ, i64_w, i32_w]
      rfl
    refine pure_ (i := 4) (N := some 28) (v := ?_) (a' := ?_) #[true, true, true, false, true, false, false, false, false, false, false, false, false, false] rfl rfl (by kernel_rfl) (fun _ _ _ h => h) (Or.inl ⟨by rfl, ?_⟩) ?_ ?_
    rotate_left
    · intro w'
      go_simp
      with_reducible rfl
    rotate_left
    · simp only [Act.put, List.setIfInBounds_toArray, List.set_cons_zero, List.set_cons_succ, i64_w, i32_w]
      rfl
    refine pure_ (i := 5) (N := some 29) (v := ?_) (a' := ?_) #[true, true, true, false, true, true, false, false, false, false, false, false, false, false] rfl rfl (by kernel_rfl) (fun _ _ _ h => h) (Or.inl ⟨by rfl, ?_⟩) ?_ ?_
    rotate_left
    · intro w'
      go_simp
      with_reducible rfl
    rotate_left
    · simp only [Act.put, List.setIfInBounds_toArray, List.set_cons_zero, List.set_cons_succ, i64_w, i32_w]
      rfl
    refine pure_ (i := 6) (N := some 30) (v := ?_) (a' := ?_) #[true, true, true, false, true, true, true, false, false, false, false, false, false, false] rfl rfl (by kernel_rfl) (fun _ _ _ h => h) (Or.inl ⟨by rfl, ?_⟩) ?_ ?_
    rotate_left
    · intro w'
      go_simp
      with_reducible rfl
    rotate_left
    · simp only [Act.put, List.setIfInBounds_toArray, List.set_cons_zero, List.set_cons_succ, i64_w, i32_w]
      rfl
    refine take_ (i := 3) (N := some 27) (v := ?_) (a' := ?_) #[true, true, true, true, true, true, true, false, false, false, false, false, false, false] rfl rfl (by kernel_rfl) (fun _ _ _ h => h) (Or.inl ⟨by rfl, ?_⟩) hHeld ?_ ?_
    rotate_left
    · intro w' s0
      go_simp
      with_reducible rfl
    rotate_left
    · simp only [Act.put, List.setIfInBounds_toArray, List.set_cons_zero, List.set_cons_succ, i64_w, i32_w]
      rfl
    refine take_ (i := 7) (N := some 31) (v := ?_) (a' := ?_) #[true, true, true, true, true, true, true, true, false, false, false, false, false, false] rfl rfl (by kernel_rfl) (fun _ _ _ h => h) (Or.inl ⟨by rfl, ?_⟩) hHeld ?_ ?_
    rotate_left
    · intro w' s0
      go_simp
      with_reducible rfl
    rotate_left
    · simp only [Act.put, List.setIfInBounds_toArray, List.set_cons_zero, List.set_cons_succ, i64_w, i32_w]
      rfl
    refine pure_ (i := 8) (N := some 32) (v := ?_) (a' := ?_) #[true, true, true, true, true, true, true, true, true, false, false, false, false, false] rfl rfl (by kernel_rfl) (fun _ _ _ h => h) (Or.inl ⟨by rfl, ?_⟩) ?_ ?_
    rotate_left
    · intro w'
      go_simp
      with_reducible rfl
    rotate_left
    · simp only [Act.put, List.setIfInBounds_toArray, List.set_cons_zero, List.set_cons_succ, i64_w, i32_w]
      rfl
    refine pure_ (i := 9) (N := some 33) (v := ?_) (a' := ?_) #[true, true, true, true, true, true, true, true, true, true, false, false, false, false] rfl rfl (by kernel_rfl) (fun _ _ _ h => h) (Or.inl ⟨by rfl, ?_⟩) ?_ ?_
    rotate_left
    · intro w'
      go_simp
      with_reducible rfl
    rotate_left
    · simp only [Act.put, List.setIfInBounds_toArray, List.set_cons_zero, List.set_cons_succ, i64_w, i32_w]
      rfl
    refine pure_ (i := 10) (N := some 34) (v := ?_) (a' := ?_) #[true, true, true, true, true, true, true, true, true, true, true, false, false, false] rfl rfl (by kernel_rfl) (fun _ _ _ h => h) (Or.inl ⟨by rfl, ?_⟩) ?_ ?_
    rotate_left
    · intro w'
      go_simp
      with_reducible rfl
    rotate_left
    · simp only [Act.put, List.setIfInBounds_toArray, List.set_cons_zero, List.set_cons_succ, i64_w, i32_w]
      rfl
    refine pure_ (i := 11) (N := some 35) (v := ?_) (a' := ?_) #[true, true, true, true, true, true, true, true, true, true, true, true, false, false] rfl rfl (by kernel_rfl) (fun _ _ _ h => h) (Or.inl ⟨by rfl, ?_⟩) ?_ ?_
    rotate_left
    · intro w'
      go_simp
      with_reducible rfl
    rotate_left
    · simp only [Act.put, List.setIfInBounds_toArray, List.set_cons_zero, List.set_cons_succ, i64_w, i32_w]
      rfl
    refine pure_ (i := 12) (N := some 36) (v := ?_) (a' := ?_) #[true, true, true, true, true, true, true, true, true, true, true, true, true, false] rfl rfl (by kernel_rfl) (fun _ _ _ h => h) (Or.inl ⟨by rfl, ?_⟩) ?_ ?_
    rotate_left
    · intro w'
      go_simp
      with_reducible rfl
    rotate_left
    · simp only [Act.put, List.setIfInBounds_toArray, List.set_cons_zero, List.set_cons_succ, i64_w, i32_w]
      rfl
    refine last_ (i := 13) (N := none) #[true, true, true, true, true, true, true, true, true, true, true, true, true, true] rfl rfl (by kernel_rfl) (by decide) (fun K hK => ?_)
    refine st_store (by rfl) rfl H.out.drew (i := 0) rfl 8 (.int .i64 (wrap64 (S3.bump + wrap64 (wrap64 (S3.bump.tdiv 16) + 1)))) rfl ?hr ?_
    (case hr => first | (go_simp; done) | (go_simp; rfl))
    intro w4_ H1
    clear H cS fS
    have H := Aside0.mk (show St w U w4_ [blk b #[.slice A0 S3.l.length c0, .int .i64 S3.added, .map (some gw), .slice A3 S3.is.length c3, .slice A4 S3.level.length c4, .slice A5 S3.why.length c5, .slice A6 S3.act.length c6, .slice A7 S3.last.length c7, .int .i64 (wrap64 (S3.bump + wrap64 (wrap64 (S3.bump.tdiv 16) + 1))), .slice A9 S3.trail.length c9, .slice A10 S3.starts.length c10, .int .i64 S3.next, .int .i64 S3.vars, .bool S3.nothing] 50, ir A3 S3.is.length c3 S3.is, ir A4 S3.level.length c4 S3.level, ir A5 S3.why.length c5 S3.why, ir A6 S3.act.length c6 S3.act, ir A7 S3.last.length c7 S3.last, ir A9 S3.trail.length c9 S3.trail, ir A10 S3.starts.length c10 S3.starts, rr A0 S3.l.length c0 (S3.l.map .own), wm gw (ownE S3.watch), ir A l.length c l] from H1)
    clear H1
    refine hK.out _ _ ?_
    clear hK K
    refine done_ (by kernel_rfl) ?_

    have hw := H.out
    rw [wrap_in] at hw
    have h3 : St w U w4_ [sol b S3.bumped, ir A l.length c l] := st_shut (S := S3.bumped) ⟨A0, c0, gw, A3, c3, A4, c4, A5, c5, A6, c6, A7, c7, A9, c9, A10, c10⟩ hw
    clear hw
    rw [← HS2.out] at h3
    obtain ⟨gl, rfl⟩ := h3.ir_some (i := 1) rfl HLL.out
    have z := h3.ir_cell (i := 1) rfl HX.out
    have H0 := Aside0.mk h3
    clear H h3
    have p1 : ((0 : Int) < (l.length : Int)) = True := eq_true (by have := HLL.out; omega)
    have p2 : (0 < l.length) = True := eq_true HLL.out
    have h := HR.out
    by_cases h1 : l.length = 1
    · rw [if_pos h1] at h
      by_cases hp : S2.mayPut x
      case neg => rw [if_neg hp] at h; cases h
      rw [if_pos hp] at h
      cases h
      have HP := Aside0.mk (show -1000000000 ≤ x ∧ x ≤ 1000000000 ∧ x.natAbs < S2.is.length ∧ x.natAbs < S2.level.length ∧ x.natAbs < S2.why.length ∧ S2.trail.length ≤ 1000000000 from ⟨by have := hp.2.2.2.2; omega, by have := hp.2.2.2.2; omega, hp.1, hp.2.1, hp.2.2.1, hp.2.2.2.1⟩)
      have d3 : ((l.length : Int) == 1) = true := beq_iff_eq.2 (by omega)
      have d4 : (l.length == 1) = true := beq_iff_eq.2 h1
      clear hp h1
      go_wp2_with (first
        | (go_at_call 40; (refine (St.does (L1 := [sol b S2]) (L2 := [ir (some ⟨gl, 0, none⟩) l.length c l]) H0.out (q_put x (-1) HP.out.1 HP.out.2.1 HP.out.2.2.1 HP.out.2.2.2.1 HP.out.2.2.2.2.1 HP.out.2.2.2.2.2)).mono ?_); rintro e w5_ ⟨L1', ⟨rfl, rfl⟩, H1⟩; clear H0 z; have H0 := Aside0.mk (show St w U w5_ [sol b (S2.put x (-1)), ir (some ⟨gl, 0, none⟩) l.length c l] from H1); clear H1))
      refine bodyPost_ret (v := .tuple #[]) (results_none (by rfl) _ _ _) rfl ?_
      exact ⟨[sol b _], ⟨rfl, rfl⟩, (H0.out.perm (perm_idx [1, 0] (by rfl) rfl)).drop⟩
    · rw [if_neg h1] at h
      by_cases hpk : S2.mayKeep ∧ (S2.keep l).mayPut x
      case neg => rw [if_neg hpk] at h; cases h
      rw [if_pos hpk] at h
      cases h
      have hp := hpk.2
      have HP := Aside0.mk (show -1000000000 ≤ x ∧ x ≤ 1000000000 ∧ x.natAbs < (S2.keep l).is.length ∧ x.natAbs < (S2.keep l).level.length ∧ x.natAbs < (S2.keep l).why.length ∧ (S2.keep l).trail.length ≤ 1000000000 from ⟨by have := hp.2.2.2.2; omega, by have := hp.2.2.2.2; omega, hp.1, hp.2.1, hp.2.2.1, hp.2.2.2.1⟩)
      have HK := Aside0.mk (show 2 ≤ l.length ∧ S2.l.length ≤ 1000000000 ∧ ∀ x, (wget S2.watch x).length ≤ 1000000000 from ⟨by have := HLL.out; omega, hpk.1.1, hpk.1.2⟩)
      have d3 : ((l.length : Int) == 1) = false := beq_eq_false_iff_ne.2 (by omega)
      have d4 : (l.length == 1) = false := beq_eq_false_iff_ne.2 h1
      clear hp hpk h1
      go_wp2_with fail
      refine start_ (n := 8) (S := fun w' => w'.cell? ⟨gl, 0, none⟩ = some (.int .i64 x)) (ds := [7]) #[false, false, false, false, false, false, false, false] (by kernel_rfl) rfl rfl ((H0.out.drew.ir_cell (i := 1) rfl HX.out)) (fun hHeld => ?_)
      refine pure_ (i := 0) (N := some 45) (v := ?_) (a' := ?_) #[true, false, false, false, false, false, false, false] rfl rfl (by kernel_rfl) (fun _ _ _ h => h) (Or.inl ⟨by rfl, ?_⟩) ?_ ?_
      rotate_left
      · intro w'
        go_simp
        with_reducible rfl
      rotate_left
      · simp only [Act.put, List.setIfInBounds_toArray, List.set_cons_zero, List.set_cons_succ, i64_w, i32_w]
        rfl
      refine pure_ (i := 1) (N := some 46) (v := ?_) (a' := ?_) #[true, true, false, false, false, false, false, false] rfl rfl (by kernel_rfl) (fun _ _ _ h => h) (Or.inl ⟨by rfl, ?_⟩) ?_ ?_
      rotate_left
      · intro w'
        go_simp
        with_reducible rfl
      rotate_left
      · simp only [Act.put, List.setIfInBounds_toArray, List.set_cons_zero, List.set_cons_succ, i64_w, i32_w]
        rfl
      refine pure_ (i := 2) (N := some 47) (v := ?_) (a' := ?_) #[true, true, true, false, false, false, false, false] rfl rfl (by kernel_rfl) (fun _ _ _ h => h) (Or.inl ⟨by rfl, ?_⟩) ?_ ?_
      rotate_left
      · intro w'
        go_simp
        with_reducible rfl
      rotate_left
      · simp only [Act.put, List.setIfInBounds_toArray, List.set_cons_zero, List.set_cons_succ, i64_w, i32_w]
        rfl
      refine pure_ (i := 4) (N := some 49) (v := ?_) (a' := ?_) #[true, true, true, false, true, false, false, false] rfl rfl (by kernel_rfl) (fun _ _ _ h => h) (Or.inl ⟨by rfl, ?_⟩) ?_ ?_
      rotate_left
      · intro w'
        go_simp
        with_reducible rfl
      rotate_left
      · simp only [Act.put, List.setIfInBounds_toArray, List.set_cons_zero, List.set_cons_succ, i64_w, i32_w]
        rfl
      refine pure_ (i := 5) (N := some 50) (v := ?_) (a' := ?_) #[true, true, true, false, true, true, false, false] rfl rfl (by kernel_rfl) (fun _ _ _ h => h) (Or.inl ⟨by rfl, ?_⟩) ?_ ?_
      rotate_left
      · intro w'
        go_simp
        with_reducible rfl
      rotate_left
      · simp only [Act.put, List.setIfInBounds_toArray, List.set_cons_zero, List.set_cons_succ, i64_w, i32_w]
        rfl
      refine take_ (i := 3) (N := some 48) (v := ?_) (a' := ?_) #[true, true, true, true, true, true, false, false] rfl rfl (by kernel_rfl) (fun _ _ _ h => h) (Or.inl ⟨by rfl, ?_⟩) hHeld ?_ ?_
      rotate_left
      · intro w' s0
        go_simp
        with_reducible rfl
      rotate_left
      · simp only [Act.put, List.setIfInBounds_toArray, List.set_cons_zero, List.set_cons_succ, i64_w, i32_w]
        rfl
      refine one_ (i := 6) (N := some 51) #[true, true, true, true, true, true, true, false] rfl rfl (by kernel_rfl) (by decide) (fun K hK => ?_)
      refine goes_ Try.func41 (by kernel_rfl) rfl #[.pointer (some ⟨b, 0, none⟩), .slice (some ⟨gl, 0, none⟩) l.length c] (by rfl) rfl rfl (by simp only [List.map_toArray, List.map_cons, List.map_nil]; rfl) ?_
      refine (St.does (L1 := [sol b S2, ir (some ⟨gl, 0, none⟩) l.length c l]) (L2 := []) H0.out.drew (q_keepB HK.out.1 HK.out.2.1 HK.out.2.2)).mono ?_
      rintro e w6_ ⟨L1', ⟨rfl, rfl⟩, H1⟩
      refine ⟨_, rfl, ?_⟩
      clear H0
      have H0 := Aside0.mk (show St w U w6_ [solG b (S2.keep l) (S2.l.map .own ++ [.bare (some ⟨gl, 0, none⟩) l.length c]) (ownE (S2.keep l).watch), ir (some ⟨gl, 0, none⟩) l.length c l] from H1)
      clear H1
      refine hK.out _ _ ((H0.out.ir_cell (i := 1) rfl HX.out)) (fun hHeld => ?_)
      clear hK K
      refine norm_ (a' := ?_) ?_ ?_
      rotate_left
      · show Act.put _ (some 51) _ = _
        simp only [Act.put, List.setIfInBounds_toArray, List.set_cons_zero, List.set_cons_succ, i64_w, i32_w]
        rfl
      refine last_ (i := 7) (N := some 52) #[true, true, true, true, true, true, true, true] rfl rfl (by kernel_rfl) (by decide) (fun K hK => ?_)
      refine goes_ Try.func40 (by kernel_rfl) rfl #[.pointer (some ⟨b, 0, none⟩), .int .i64 x, .int .i64 (S2.l.length : Int)] (by rfl) rfl rfl (by simp only [List.map_toArray, List.map_cons, List.map_nil]; rfl) ?_
      refine (St.does (L1 := [solG b (S2.keep l) (S2.l.map .own ++ [.bare (some ⟨gl, 0, none⟩) l.length c]) (ownE (S2.keep l).watch)]) (L2 := [ir (some ⟨gl, 0, none⟩) l.length c l]) H0.out (q_putG x (S2.l.length : Int) HP.out.1 HP.out.2.1 HP.out.2.2.1 HP.out.2.2.2.1 HP.out.2.2.2.2.1 HP.out.2.2.2.2.2)).mono ?_
      rintro e w7_ ⟨L1', ⟨rfl, rfl⟩, H1⟩
      refine ⟨_, rfl, ?_⟩
      clear H0
      have H0 := Aside0.mk (show St w U w7_ [solG b ((S2.keep l).put x (S2.l.length : Int)) (S2.l.map .own ++ [.bare (some ⟨gl, 0, none⟩) l.length c]) (ownE (S2.keep l).watch), ir (some ⟨gl, 0, none⟩) l.length c l] from H1)
      clear H1
      refine hK.out _ _ ?_
      clear hK K
      refine norm_ (a' := ?_) ?_ ?_
      rotate_left
      · show Act.put _ (some 52) _ = _
        simp only [Act.put, List.setIfInBounds_toArray, List.set_cons_zero, List.set_cons_succ, i64_w, i32_w]
        rfl
      refine done_ (by kernel_rfl) ?_

      go_wp2_with fail
      refine bodyPost_end (v := .tuple #[]) (results_none (by rfl) _ _ _) rfl ?_
      exact ⟨[sol b _], ⟨rfl, rfl⟩, keep_giveG (S := S2) rfl H0.out⟩
end Go.Proofs.Ytckimhhncpnkpaa.H
/- A map of rows, one key's row told apart. -/
namespace Go.Proofs.Ytckimhhncpnkpaa.Sep
set_option linter.unusedVariables false
open Go Go.RowKit Go.MapKept Go.Proofs.YtckimhhncpnkpaaW.PrintWords Go.Proofs.YtckimhhncpnkpaaW.PrintLast Go.Proofs.YtckimhhncpnkpaaW.PrintMore
/-- The map with x's row told apart. -/
def bareE (x : Int) (B : Option Addr) (n c : Nat) (m : List (Int × List Int)) : List (Int × En) := m.map fun q => (q.1, if q.1 = x then .bare B n c else .own q.2)
section
variable {x y : Int} {B : Option Addr} {n c : Nat} {m : List (Int × List Int)} {w : World} {L : List Ch} {U : Nat → Prop} {g : Nat}
theorem key_inj {α : Type} {m : List (Int × α)} (hn : (m.map (·.1)).Nodup) {j p : Nat} {q r : Int × α} (hj : m[j]? = some q) (hp : m[p]? = some r) (e : q.1 = r.1) : j = p := by
  have l1 := (List.getElem?_eq_some_iff.1 hj).1
  have l2 := (List.getElem?_eq_some_iff.1 hp).1
  have e1 : (m.map (·.1))[j]'(by rw [List.length_map]; exact l1) = q.1 := by rw [List.getElem_map, (List.getElem?_eq_some_iff.1 hj).2]
  have e2 : (m.map (·.1))[p]'(by rw [List.length_map]; exact l2) = r.1 := by rw [List.getElem_map, (List.getElem?_eq_some_iff.1 hp).2]
  exact nodup_inj hn _ _ (e1.trans (e.trans e2.symm))
theorem bareE_keys : (bareE x B n c m).map (·.1) = m.map (·.1) := by unfold bareE; rw [List.map_map]; rfl
theorem bareE_none (h : ∀ q ∈ m, q.1 ≠ x) : bareE x B n c m = ownE m := List.map_congr_left fun q hq => by rw [if_neg (h q hq)]
theorem bareE_at (hn : (m.map (·.1)).Nodup) {j : Nat} {d : List Int} (hj : m[j]? = some (x, d)) : bareE x B n c m = (ownE m).set j (x, .bare B n c) := by
  unfold bareE ownE
  apply List.ext_getElem?
  intro p
  rw [List.getElem?_set, List.length_map, List.getElem?_map, List.getElem?_map]
  by_cases hp : j = p
  · subst hp
    rw [if_pos rfl, if_pos (List.getElem?_eq_some_iff.1 hj).1, hj]
    show some (x, if x = x then _ else _) = _
    rw [if_pos rfl]
  · rw [if_neg hp]
    match hq : m[p]? with
    | none => rfl
    | some q =>
      show some (q.1, if q.1 = x then _ else _) = some (q.1, En.own q.2)
      rw [if_neg fun e => hp (key_inj hn hj hq e.symm)]
theorem bareE_nodup (h : Sep w (wm g (bareE x B n c m) :: L) U) : (m.map (·.1)).Nodup := by
  have := wm_nodup h
  rwa [bareE_keys] at this
theorem wm_out (x : Int) (h : Sep w (wm g (ownE m) :: L) U) : ∃ (B : Option Addr) (n c : Nat), Sep w (wm g (bareE x B n c m) :: ir B n c (wget m x) :: L) U ∧ ((∃ j : Nat, (bareE x B n c m)[j]? = some (x, En.bare B n c)) ∨ ((∀ q ∈ bareE x B n c m, q.1 ≠ x) ∧ B = none ∧ n = 0 ∧ c = 0)) := by
  have hn : (m.map (·.1)).Nodup := by
    have := wm_nodup h
    unfold ownE at this
    rwa [List.map_map] at this
  rcases wget_cases x m with ⟨j, d, h1, h2, h3⟩ | ⟨h1, h2, h3⟩
  · have hj : (ownE m)[j]? = some (x, .own d) := by unfold ownE; rw [List.getElem?_map, h1]; rfl
    obtain ⟨B, k, c, hb⟩ := wm_take hj h
    refine ⟨B, k, c, by rw [bareE_at hn h1, h2]; exact hb, .inl ⟨j, ?_⟩⟩
    rw [bareE_at hn h1, List.getElem?_set_self (List.getElem?_eq_some_iff.1 hj).1]
  · refine ⟨none, 0, 0, by rw [bareE_none h1, h2]; exact (ir_nil h).swap, .inr ⟨?_, rfl, rfl, rfl⟩⟩
    intro q hq
    obtain ⟨p, hp, rfl⟩ := List.mem_map.1 hq
    exact h1 p hp
theorem wm_in (hn : (m.map (·.1)).Nodup) {A' : Option Addr} {n' c' : Nat} {ys : List Int} (h : Sep w (wm g (wset (bareE x B n c m) x (.bare A' n' c')) :: ir A' n' c' ys :: L) U) : Sep w (wm g (ownE (wput m x ys)) :: L) U := by
  have hk : ((bareE x B n c m).map (·.1)).Nodup := by rw [bareE_keys]; exact hn
  rcases wget_cases x m with ⟨j, d, h1, h2, h3⟩ | ⟨h1, h2, h3⟩
  · have hjl := (List.getElem?_eq_some_iff.1 h1).1
    have hjm : j < (ownE m).length := by unfold ownE; rw [List.length_map]; exact hjl
    have hM : (bareE x B n c m)[j]? = some (x, .bare B n c) := by rw [bareE_at hn h1, List.getElem?_set_self hjm]
    rw [wset_at hk hM, bareE_at hn h1, List.set_set] at h
    have hs2 := wm_give (j := j) (x := x) (by rw [List.getElem?_set_self hjm]) h
    rw [List.set_set] at hs2
    rw [h3]
    unfold ownE at hs2 ⊢
    rw [List.map_set]
    exact hs2
  · have hno : ∀ q ∈ ownE m, q.1 ≠ x := fun q hq => by
      obtain ⟨p, hp, rfl⟩ := List.mem_map.1 hq
      exact h1 p hp
    rw [bareE_none h1, wset_none hno] at h
    have hs2 := wm_give (j := (ownE m).length) (x := x) (by rw [List.getElem?_append_right (Nat.le_refl _), Nat.sub_self]; rfl) h
    rw [h3]
    have e : (ownE m ++ [(x, En.bare A' n' c')]).set (ownE m).length (x, .own ys) = ownE (m ++ [(x, ys)]) := by
      rw [List.set_append_right _ _ (Nat.le_refl _), Nat.sub_self]
      unfold ownE
      rw [List.map_append]; rfl
    rw [e] at hs2
    exact hs2
theorem wm_prepB (hxy : y ≠ x) (h : Sep w (wm g (bareE x B n c m) :: L) U) :
    ∃ (M : List (Int × En)) (A : Option Addr) (k d : Nat), Sep w (wm g M :: ir A k d (wget m y) :: L) U ∧ ((∃ j : Nat, M[j]? = some (y, En.bare A k d)) ∨ ((∀ q ∈ M, q.1 ≠ y) ∧ A = none ∧ k = 0 ∧ d = 0)) ∧
      ∀ (g' : Nat) (w' : World) (U' : Nat → Prop) (L' : List Ch) (A' : Option Addr) (n' c' : Nat) (ys : List Int), Sep w' (wm g' (wset M y (.bare A' n' c')) :: ir A' n' c' ys :: L') U' → Sep w' (wm g' (bareE x B n c (wput m y ys)) :: L') U' := by
  have hn := wm_nodup h
  rcases wget_cases y m with ⟨j, d, h1, h2, h3⟩ | ⟨h1, h2, h3⟩
  · have hj : (bareE x B n c m)[j]? = some (y, .own d) := by
      unfold bareE
      rw [List.getElem?_map, h1]
      show some (y, if y = x then _ else _) = _
      rw [if_neg hxy]
    obtain ⟨A, k, e, hb⟩ := wm_take hj h
    have hjl := (List.getElem?_eq_some_iff.1 hj).1
    have hM : ((bareE x B n c m).set j (y, .bare A k e))[j]? = some (y, .bare A k e) := by rw [List.getElem?_set_self hjl]
    refine ⟨_, A, k, e, by rw [h2]; exact hb, .inl ⟨j, hM⟩, fun g' w' U' L' A' n' c' ys hs => ?_⟩
    have hn2 := wm_nodup hb
    rw [wset_at hn2 hM, List.set_set] at hs
    have hs2 := wm_give (j := j) (x := y) (by rw [List.getElem?_set_self hjl]) hs
    rw [List.set_set] at hs2
    rw [h3]
    unfold bareE at hs2 ⊢
    rw [List.map_set]
    dsimp only
    rw [if_neg hxy]
    exact hs2
  · have hno : ∀ q ∈ bareE x B n c m, q.1 ≠ y := fun q hq => by
      obtain ⟨p, hp, rfl⟩ := List.mem_map.1 hq
      exact h1 p hp
    refine ⟨bareE x B n c m, none, 0, 0, by rw [h2]; exact (ir_nil h).swap, .inr ⟨hno, rfl, rfl, rfl⟩, fun g' w' U' L' A' n' c' ys hs => ?_⟩
    rw [wset_none hno] at hs
    have hs2 := wm_give (j := (bareE x B n c m).length) (x := y) (by rw [List.getElem?_append_right (Nat.le_refl _), Nat.sub_self]; rfl) hs
    rw [h3]
    have e : (bareE x B n c m ++ [(y, En.bare A' n' c')]).set (bareE x B n c m).length (y, .own ys) = bareE x B n c (m ++ [(y, ys)]) := by
      rw [List.set_append_right _ _ (Nat.le_refl _), Nat.sub_self]
      unfold bareE
      rw [List.map_append]
      show _ ++ [(y, En.own ys)] = _ ++ [(y, if y = x then _ else _)]
      rw [if_neg hxy]
    rw [e] at hs2
    exact hs2
end
end Go.Proofs.Ytckimhhncpnkpaa.Sep
namespace Go.Proofs.Ytckimhhncpnkpaa.Sat
open Go Go.RowKit Go.Proofs.Ytckimhhncpnkpaa.Sep
section
variable {w0 w : World} {b : Nat} {S : Sol} {E : List En} {M : List (Int × En)} {L : List Ch} {U : Nat → Prop}
theorem solG_setL (kk : Nat) (l : List Int) : solG b (S.setL kk l) E M = solG b S E M := by
  unfold solG openedG cells Sol.setL
  simp only [List.length_set]
/-- A clause's row goes back, changed. -/
theorem look_give {kk : Nat} {l : List Int} {B : Option Addr} {k d : Nat} (hk : kk < S.l.length) (h : St w0 U w (solG b S ((S.l.map .own).set kk (.bare B k d)) M :: ir B k d l :: L)) : St w0 U w (solG b (S.setL kk l) ((S.setL kk l).l.map .own) M :: L) := by
  have h2 := st_give (j := kk) (by rw [List.getElem?_set_self (by rw [List.length_map]; exact hk)]) h
  rw [List.set_set] at h2
  rw [solG_setL]
  have e : (S.setL kk l).l.map En.own = (S.l.map .own).set kk (.own l) := by unfold Sol.setL; rw [List.map_set]
  rw [e]
  exact h2
def front (b : Nat) (r : Raw) (S : Sol) (E : List En) : List Ch := [blk b (cells r S) 50, ir r.A3 S.is.length r.c3 S.is, ir r.A4 S.level.length r.c4 S.level, ir r.A5 S.why.length r.c5 S.why, ir r.A6 S.act.length r.c6 S.act, ir r.A7 S.last.length r.c7 S.last, ir r.A9 S.trail.length r.c9 S.trail, ir r.A10 S.starts.length r.c10 S.starts, rr r.A0 S.l.length r.c0 E]
theorem openedG_front (r : Raw) (M' : List (Int × En)) : openedG b r S E M' = front b r S E ++ [wm r.gw M'] := rfl
theorem front_one {r : Raw} (h : St w0 U w (openedG b r S E M ++ L)) : St w0 U w (wm r.gw M :: (front b r S E ++ L)) := by
  rw [openedG_front, List.append_assoc] at h
  exact h.perm List.perm_middle
theorem front_two {r : Raw} {c : Ch} (h : St w0 U w (openedG b r S E M ++ (c :: L))) : St w0 U w (wm r.gw M :: c :: (front b r S E ++ L)) := by
  rw [openedG_front, List.append_assoc] at h
  exact h.perm (perm_two _ _ _ _).symm
theorem back_one {r : Raw} (h : St w0 U w (wm r.gw M :: (front b r S E ++ L))) : St w0 U w (openedG b r S E M ++ L) := by
  rw [openedG_front, List.append_assoc]
  exact h.perm List.perm_middle.symm
theorem back_two {r : Raw} {c : Ch} (h : St w0 U w (wm r.gw M :: c :: (front b r S E ++ L))) : St w0 U w (openedG b r S E M ++ (c :: L)) := by
  rw [openedG_front, List.append_assoc]
  exact h.perm (perm_two _ _ _ _)
theorem st_out (x : Int) {m : List (Int × List Int)} (h : St w0 U w (solG b S E (ownE m) :: L)) : ∃ (B : Option Addr) (n c : Nat), St w0 U w (solG b S E (bareE x B n c m) :: ir B n c (wget m x) :: L) ∧ ((∃ j : Nat, (bareE x B n c m)[j]? = some (x, En.bare B n c)) ∨ ((∀ q ∈ bareE x B n c m, q.1 ≠ x) ∧ B = none ∧ n = 0 ∧ c = 0)) := by
  obtain ⟨r, h1⟩ := st_open h
  have h2 := front_one h1
  obtain ⟨B, n, c, h3, h4⟩ := wm_out x h2.sep
  exact ⟨B, n, c, st_shut r (back_two ⟨h2.keeps, h3, h2.up⟩), h4⟩
theorem st_nodup {m : List (Int × List Int)} {x : Int} {B : Option Addr} {n c : Nat} (h : St w0 U w (solG b S E (bareE x B n c m) :: L)) : (m.map (·.1)).Nodup := by
  obtain ⟨r, h1⟩ := st_open h
  exact bareE_nodup (front_one h1).sep
theorem st_in {m : List (Int × List Int)} {x : Int} {B A' : Option Addr} {n c n' c' : Nat} {ys : List Int} (hn : (m.map (·.1)).Nodup) (h : St w0 U w (solG b S E (wset (bareE x B n c m) x (.bare A' n' c')) :: ir A' n' c' ys :: L)) : St w0 U w (solG b S E (ownE (wput m x ys)) :: L) := by
  obtain ⟨r, h1⟩ := st_open h
  have h2 := front_two h1
  exact st_shut r (back_one ⟨h2.keeps, wm_in hn h2.sep, h2.up⟩)
theorem st_prepB {m : List (Int × List Int)} {x y : Int} {B : Option Addr} {n c : Nat} (hxy : y ≠ x) (h : St w0 U w (solG b S E (bareE x B n c m) :: L)) :
    ∃ (M : List (Int × En)) (A : Option Addr) (k d : Nat), St w0 U w (solG b S E M :: ir A k d (wget m y) :: L) ∧ ((∃ j : Nat, M[j]? = some (y, En.bare A k d)) ∨ ((∀ q ∈ M, q.1 ≠ y) ∧ A = none ∧ k = 0 ∧ d = 0)) ∧
      ∀ (w' : World) (L' : List Ch) (S' : Sol) (E' : List En) (A' : Option Addr) (n' c' : Nat) (ys : List Int), St w0 U w' (solG b S' E' (wset M y (.bare A' n' c')) :: ir A' n' c' ys :: L') → St w0 U w' (solG b S' E' (bareE x B n c (wput m y ys)) :: L') := by
  obtain ⟨r, h1⟩ := st_open h
  have h2 := front_one h1
  obtain ⟨M, A, k, d, h3, h4, h5⟩ := wm_prepB hxy h2.sep
  refine ⟨M, A, k, d, st_shut r (back_two ⟨h2.keeps, h3, h2.up⟩), h4, fun w' L' S' E' A' n' c' ys hs => ?_⟩
  obtain ⟨r', k1⟩ := st_open hs
  have k2 := front_two k1
  exact st_shut r' (back_one ⟨k2.keeps, h5 _ _ _ _ _ _ _ _ k2.sep, k2.up⟩)
/-- What a lookup answers, where its key's row is told apart. -/
theorem look_at {P : Program} {M : List (Int × En)} {y : Int} {A : Option Addr} {k d : Nat} (h2 : (∃ j : Nat, M[j]? = some (y, En.bare A k d)) ∨ ((∀ q ∈ M, q.1 ≠ y) ∧ A = none ∧ k = 0 ∧ d = 0)) {T : TypeId} (hT : P.underlying T = some (.map 3 23)) (hd : P.underlying 3 = some (.int .i64)) (hz : ∀ w, (zeroValue 23).run P w = .ok (.slice none 0 0) w) :
    ∀ (W1 : World) (L1 : List Ch) (p g : Nat), St w0 U W1 L1 → L1[p]? = some (wm g M) → (Instr.lookup T (.map (some g)) (.int .i64 y) false).run P W1 = .ok (.slice A k d) W1 := fun W1 L1 p g hst hp => by
  obtain ⟨l1, l2⟩ := hst.wm_lookup hp hT hd hz y
  rcases h2 with ⟨j, hj⟩ | ⟨ha, rfl, rfl, rfl⟩
  · exact l1 j A k d hj
  · exact l2 ha
theorem st_nil (h : St w0 U w L) : St w0 U w (ir none 0 0 [] :: L) := ⟨h.keeps, ir_nil h.sep, h.up⟩
end
end Go.Proofs.Ytckimhhncpnkpaa.Sat
/- follow. -/
namespace Go.Proofs.Ytckimhhncpnkpaa.H
set_option linter.unusedSimpArgs false
set_option linter.unusedVariables false
open Go.RowKit Go.Proofs.YtckimhhncpnkpaaW.PrintWords Go.Proofs.YtckimhhncpnkpaaW.PrintLast Go.Proofs.YtckimhhncpnkpaaW.PrintMore Go.Proofs.Ytckimhhncpnkpaa.Sep Go.Proofs.Ytckimhhncpnkpaa.Sat
def Bd (S : Sol) : Prop := S.is.length ≤ 1000000000 ∧ ∀ x ∈ S.trail, x.natAbs ≤ 1000000000
theorem rdc_drop {W : World} {ws : List Int} {nw cx gx i : Nat} {B : Option Addr} (hlen : ws.length = nw) (hcx : nw ≤ cx) (hB : ¬ cx = i + 1 → B = some ⟨gx, i + 1, none⟩) (hcell : ∀ (j : Nat) (y : Int), ws[j]? = some y → W.cell? ⟨gx, j, none⟩ = some (.int .i64 y)) : Rdc W B (nw - (i + 1)) ((ws.drop (i + 1)).map (Value.int .i64)) := fun hm => by
  refine ⟨_, hB (by omega), fun j u hu => ?_⟩
  rw [List.getElem?_map, List.getElem?_drop] at hu
  match hq : ws[i + 1 + j]? with
  | none => rw [hq] at hu; cases hu
  | some y =>
    rw [hq] at hu
    cases hu
    have e : (⟨gx, i + 1, none⟩ : Addr).add j = ⟨gx, i + 1 + j, none⟩ := by simp [Addr.add]
    rw [e]
    exact hcell _ _ hq
theorem bd_put {T : Sol} {x why : Int} (h : Bd T) (h1 : -1000000000 ≤ x) (h2 : x ≤ 1000000000) : Bd (T.put x why) := by
  refine ⟨by unfold Sol.put; rw [List.length_set]; exact h.1, fun z hz => ?_⟩
  unfold Sol.put at hz
  rcases List.mem_append.1 hz with hz | hz
  · exact h.2 z hz
  · rw [List.mem_singleton.1 hz]; omega
open Classical in
set_option maxHeartbeats 8000000 in
set_option maxRecDepth 100000 in
theorem q_follow {w : World} {b : Nat} {S Sf : Sol} {f : Nat} {kf : Int} (h : S.follow f = some (Sf, kf)) (hbd : Bd S) :
    Does Try.prog 44 #[.pointer (some ⟨b, 0, none⟩)] w [sol b S] fun e L => e = .returned (.int .i64 kf) ∧ L = [sol b Sf] := by
  have mixed : Try.prog.follows Departure.mixedOrders = true := by kernel_rfl
  refine does_intro fun U hs => ?_
  have H0 := Aside0.mk hs
  have HF := Aside0.mk h
  have HBd := Aside0.mk hbd
  clear hs h hbd
  go_enter Try.func44, Try.ntmps44
  go_wp2_with fail
  go_loopg [2] (f + 1) (fun kq v2 wr => ∃ (f1 : Nat) (S1 : Sol), v2 = .int .i64 0 ∧ Aside0 (f1 < kq) ∧ Aside0 (S1.follow f1 = some (Sf, kf)) ∧ Aside0 (Bd S1) ∧ Aside0 (St w U wr [sol b S1]))
  case atStart => exact ⟨f, S, rfl, ⟨by omega⟩, HF, HBd, H0⟩
  case round =>
    clear H0 HF HBd
    obtain ⟨f1, S1, rfl, HQ, HF, HBd, H0⟩ := hrel
    have h := HF.out
    cases f1 with
    | zero => rw [Sol.follow] at h; cases h
    | succ f1 =>
    cases gk with
    | zero => exact absurd HQ.out (by omega)
    | succ k1 =>
    rw [Sol.follow] at h
    by_cases hn0 : S1.next < 0
    · rw [if_pos hn0] at h; cases h
    rw [if_neg hn0] at h
    obtain ⟨nx, hnx⟩ : ∃ nx : Nat, S1.next = (nx : Int) := ⟨S1.next.toNat, by omega⟩
    rw [hnx, Int.toNat_natCast] at h
    by_cases hlt : nx < S1.trail.length
    case neg =>
      rw [List.getElem?_eq_none (by omega)] at h
      have h7 := Option.some.inj h
      simp only [Prod.mk.injEq] at h7
      obtain ⟨rfl, rfl⟩ := h7
      obtain ⟨r, h2⟩ := st_open H0.out
      obtain ⟨A0, c0, gw, A3, c3, A4, c4, A5, c5, A6, c6, A7, c7, A9, c9, A10, c10⟩ := r
      have cS := h2.cell (i := 0) rfl
      dsimp only [cells] at cS
      rw [hnx] at cS
      clear h2
      have d1 : decide (nx < S1.trail.length) = false := decide_eq_false hlt
      have d2 : decide ((nx : Int) < (S1.trail.length : Int)) = false := decide_eq_false (by omega)
      clear h hn0 hlt
      go_wp2_with fail
      refine start_ (n := 10) (S := fun w' => w' = wr.drew) (ds := []) #[false, false, false, false, false, false, false, false, false, false] (by kernel_rfl) rfl rfl (rfl) (fun hHeld => ?_)
      refine pure_ (i := 0) (N := some 10) (v := ?_) (a' := ?_) #[true, false, false, false, false, false, false, false, false, false] rfl rfl (by kernel_rfl) (fun _ _ _ h => h) (Or.inl ⟨by rfl, ?_⟩) ?_ ?_
      rotate_left
      · intro w'
        go_simp
        with_reducible rfl
      rotate_left
      · simp only [Act.put, List.setIfInBounds_toArray, List.set_cons_zero, List.set_cons_succ, i64_w, i32_w]
        rfl
      refine pure_ (i := 1) (N := some 11) (v := ?_) (a' := ?_) #[true, true, false, false, false, false, false, false, false, false] rfl rfl (by kernel_rfl) (fun _ _ _ h => h) (Or.inl ⟨by rfl, ?_⟩) ?_ ?_
      rotate_left
      · intro w'
        go_simp
        with_reducible rfl
      rotate_left
      · simp only [Act.put, List.setIfInBounds_toArray, List.set_cons_zero, List.set_cons_succ, i64_w, i32_w]
        rfl
      refine pure_ (i := 2) (N := some 12) (v := ?_) (a' := ?_) #[true, true, true, false, false, false, false, false, false, false] rfl rfl (by kernel_rfl) (fun _ _ _ h => h) (Or.inl ⟨by rfl, ?_⟩) ?_ ?_
      rotate_left
      · intro w'
        go_simp
        with_reducible rfl
      rotate_left
      · simp only [Act.put, List.setIfInBounds_toArray, List.set_cons_zero, List.set_cons_succ, i64_w, i32_w]
        rfl
      refine pure_ (i := 4) (N := some 14) (v := ?_) (a' := ?_) #[true, true, true, false, true, false, false, false, false, false] rfl rfl (by kernel_rfl) (fun _ _ _ h => h) (Or.inl ⟨by rfl, ?_⟩) ?_ ?_
      rotate_left
      · intro w'
        go_simp
        with_reducible rfl
      rotate_left
      · simp only [Act.put, List.setIfInBounds_toArray, List.set_cons_zero, List.set_cons_succ, i64_w, i32_w]
        rfl
      refine pure_ (i := 5) (N := some 15) (v := ?_) (a' := ?_) #[true, true, true, false, true, true, false, false, false, false] rfl rfl (by kernel_rfl) (fun _ _ _ h => h) (Or.inl ⟨by rfl, ?_⟩) ?_ ?_
      rotate_left
      · intro w'
        go_simp
        with_reducible rfl
      rotate_left
      · simp only [Act.put, List.setIfInBounds_toArray, List.set_cons_zero, List.set_cons_succ, i64_w, i32_w]
        rfl
      refine pure_ (i := 6) (N := some 16) (v := ?_) (a' := ?_) #[true, true, true, false, true, true, true, false, false, false] rfl rfl (by kernel_rfl) (fun _ _ _ h => h) (Or.inl ⟨by rfl, ?_⟩) ?_ ?_
      rotate_left
      · intro w'
        go_simp
        with_reducible rfl
      rotate_left
      · simp only [Act.put, List.setIfInBounds_toArray, List.set_cons_zero, List.set_cons_succ, i64_w, i32_w]
        rfl
      refine take_ (i := 3) (N := some 13) (v := ?_) (a' := ?_) #[true, true, true, true, true, true, true, false, false, false] rfl rfl (by kernel_rfl) (fun _ _ _ h => h) (Or.inl ⟨by rfl, ?_⟩) hHeld ?_ ?_
      rotate_left
      · intro w' s0
        go_simp
        with_reducible rfl
      rotate_left
      · simp only [Act.put, List.setIfInBounds_toArray, List.set_cons_zero, List.set_cons_succ, i64_w, i32_w]
        rfl
      refine take_ (i := 7) (N := some 17) (v := ?_) (a' := ?_) #[true, true, true, true, true, true, true, true, false, false] rfl rfl (by kernel_rfl) (fun _ _ _ h => h) (Or.inl ⟨by rfl, ?_⟩) hHeld ?_ ?_
      rotate_left
      · intro w' s0
        go_simp
        with_reducible rfl
      rotate_left
      · simp only [Act.put, List.setIfInBounds_toArray, List.set_cons_zero, List.set_cons_succ, i64_w, i32_w]
        rfl
      refine pure_ (i := 8) (N := some 18) (v := ?_) (a' := ?_) #[true, true, true, true, true, true, true, true, true, false] rfl rfl (by kernel_rfl) (fun _ _ _ h => h) (Or.inl ⟨by rfl, ?_⟩) ?_ ?_
      rotate_left
      · intro w'
        go_simp
        with_reducible rfl
      rotate_left
      · simp only [Act.put, List.setIfInBounds_toArray, List.set_cons_zero, List.set_cons_succ, i64_w, i32_w]
        rfl
      refine pure_ (i := 9) (N := some 19) (v := ?_) (a' := ?_) #[true, true, true, true, true, true, true, true, true, true] rfl rfl (by kernel_rfl) (fun _ _ _ h => h) (Or.inl ⟨by rfl, ?_⟩) ?_ ?_
      rotate_left
      · intro w'
        go_simp
        with_reducible rfl
      rotate_left
      · simp only [Act.put, List.setIfInBounds_toArray, List.set_cons_zero, List.set_cons_succ, i64_w, i32_w]
        rfl
      refine done_ (by kernel_rfl) ?_

      go_wp2_with fail
      go_ret
      exact ⟨_, ⟨rfl, rfl⟩, H0.out.drew⟩
    case pos =>
      obtain ⟨y, hy⟩ : ∃ y, S1.trail[nx]? = some y := ⟨_, List.getElem?_eq_getElem hlt⟩
      rw [hy] at h
      dsimp only at h
      obtain ⟨x, hx⟩ : ∃ x, x = -y := ⟨_, rfl⟩
      rw [← hx] at h
      obtain ⟨ws, hws⟩ : ∃ ws, ws = wget S1.watch x := ⟨_, rfl⟩
      obtain ⟨S2, k2, hlook⟩ : ∃ S2 k2, Sat.look x (wget S1.watch x) { S1 with next := (nx : Int) + 1 } [] = some (S2, k2) := by
        match hq : Sat.look x (wget S1.watch x) { S1 with next := (nx : Int) + 1 } [] with
        | none => rw [hq] at h; cases h
        | some (a1, a2) => exact ⟨a1, a2, rfl⟩
      rw [hlook] at h
      dsimp only at h
      rw [← hws] at hlook
      have hyb := HBd.out.2 y (List.mem_of_getElem? hy)
      obtain ⟨Bx, nw, cx, h1, hl1⟩ := st_out x H0.out
      rw [← hws] at h1
      have hwl := h1.ir_len (i := 1) rfl
      have hwc := h1.ir_cap (i := 1) rfl
      have HLK := Aside0.mk (look_at (P := Try.prog) (w0 := w) (U := U) hl1 Try.underlying48 Try.underlying3 zeroS)
      obtain ⟨r, h2⟩ := st_open h1
      obtain ⟨g9, e9⟩ := h2.ir_some (i := 6) rfl (by omega)
      obtain ⟨A0, c0, gw, A3, c3, A4, c4, A5, c5, A6, c6, A7, c7, A9, c9, A10, c10⟩ := r
      dsimp only at e9
      subst e9
      have cS := h2.cell (i := 0) rfl
      dsimp only [cells] at cS
      have zt := h2.ir_cell (i := 6) rfl hy
      have fS := h2.frz (i := 0) rfl
      have htc := h2.ir_cap (i := 6) rfl
      obtain ⟨A9, hA9⟩ : ∃ A9 : Option Addr, A9 = some ⟨g9, 0, none⟩ := ⟨_, rfl⟩
      have H := Aside0.mk (show St w U wr [blk b #[.slice A0 S1.l.length c0, .int .i64 S1.added, .map (some gw), .slice A3 S1.is.length c3, .slice A4 S1.level.length c4, .slice A5 S1.why.length c5, .slice A6 S1.act.length c6, .slice A7 S1.last.length c7, .int .i64 S1.bump, .slice (some ⟨g9, 0, none⟩) S1.trail.length c9, .slice A10 S1.starts.length c10, .int .i64 S1.next, .int .i64 S1.vars, .bool S1.nothing] 50, ir A3 S1.is.length c3 S1.is, ir A4 S1.level.length c4 S1.level, ir A5 S1.why.length c5 S1.why, ir A6 S1.act.length c6 S1.act, ir A7 S1.last.length c7 S1.last, ir (some ⟨g9, 0, none⟩) S1.trail.length c9 S1.trail, ir A10 S1.starts.length c10 S1.starts, rr A0 S1.l.length c0 (S1.l.map .own), wm gw (bareE x Bx nw cx S1.watch), ir Bx nw cx ws] from h2)
      rw [hnx] at cS
      rw [hnx] at H
      have hxy : -y = x := hx.symm
      have hnxb : (nx : Int) ≤ 9223372036854775806 := by unfold maxLen at htc; dsimp only at htc; omega
      have hyl : -1000000000 ≤ y := by omega
      have hyu : y ≤ 1000000000 := by omega
      have d1 : decide (nx < S1.trail.length) = true := decide_eq_true hlt
      have d2 : decide ((nx : Int) < (S1.trail.length : Int)) = true := decide_eq_true (by omega)
      have p1 : ((nx : Int) < (S1.trail.length : Int)) = True := eq_true (by omega)
      have p2 : (nx < S1.trail.length) = True := eq_true hlt
      have p3 : (0 ≤ (nx : Int)) = True := eq_true (by omega)
      have HWS := Aside0.mk (show ws.length = nw ∧ nw ≤ cx ∧ cx ≤ maxLen from ⟨hwl, hwc⟩)
      have HFN := Aside0.mk h
      have HLOOK := Aside0.mk hlook
      have HBd2 := Aside0.mk (show Bd { S1 with next := (nx : Int) + 1 } from HBd.out)
      have hnwb : (nw : Int) ≤ 9223372036854775807 := by have := hwc.2; have := hwc.1; unfold maxLen at *; omega
      have hwx : wrap64 x = x := by unfold wrap64; omega
      clear h hlook hn0 hlt hy hyb h1 hl1 hwl hwc h2 htc H0 hws hx hA9 A9
      go_wp2_with fail
      refine start_ (n := 10) (S := fun w' => w' = wr.drew) (ds := []) #[false, false, false, false, false, false, false, false, false, false] (by kernel_rfl) rfl rfl (rfl) (fun hHeld => ?_)
      refine pure_ (i := 0) (N := some 10) (v := ?_) (a' := ?_) #[true, false, false, false, false, false, false, false, false, false] rfl rfl (by kernel_rfl) (fun _ _ _ h => h) (Or.inl ⟨by rfl, ?_⟩) ?_ ?_
      rotate_left
      · intro w'
        go_simp
        with_reducible rfl
      rotate_left
      · simp only [Act.put, List.setIfInBounds_toArray, List.set_cons_zero, List.set_cons_succ, i64_w, i32_w]
        rfl
      refine pure_ (i := 1) (N := some 11) (v := ?_) (a' := ?_) #[true, true, false, false, false, false, false, false, false, false] rfl rfl (by kernel_rfl) (fun _ _ _ h => h) (Or.inl ⟨by rfl, ?_⟩) ?_ ?_
      rotate_left
      · intro w'
        go_simp
        with_reducible rfl
      rotate_left
      · simp only [Act.put, List.setIfInBounds_toArray, List.set_cons_zero, List.set_cons_succ, i64_w, i32_w]
        rfl
      refine pure_ (i := 2) (N := some 12) (v := ?_) (a' := ?_) #[true, true, true, false, false, false, false, false, false, false] rfl rfl (by kernel_rfl) (fun _ _ _ h => h) (Or.inl ⟨by rfl, ?_⟩) ?_ ?_
      rotate_left
      · intro w'
        go_simp
        with_reducible rfl
      rotate_left
      · simp only [Act.put, List.setIfInBounds_toArray, List.set_cons_zero, List.set_cons_succ, i64_w, i32_w]
        rfl
      refine pure_ (i := 4) (N := some 14) (v := ?_) (a' := ?_) #[true, true, true, false, true, false, false, false, false, false] rfl rfl (by kernel_rfl) (fun _ _ _ h => h) (Or.inl ⟨by rfl, ?_⟩) ?_ ?_
      rotate_left
      · intro w'
        go_simp
        with_reducible rfl
      rotate_left
      · simp only [Act.put, List.setIfInBounds_toArray, List.set_cons_zero, List.set_cons_succ, i64_w, i32_w]
        rfl
      refine pure_ (i := 5) (N := some 15) (v := ?_) (a' := ?_) #[true, true, true, false, true, true, false, false, false, false] rfl rfl (by kernel_rfl) (fun _ _ _ h => h) (Or.inl ⟨by rfl, ?_⟩) ?_ ?_
      rotate_left
      · intro w'
        go_simp
        with_reducible rfl
      rotate_left
      · simp only [Act.put, List.setIfInBounds_toArray, List.set_cons_zero, List.set_cons_succ, i64_w, i32_w]
        rfl
      refine pure_ (i := 6) (N := some 16) (v := ?_) (a' := ?_) #[true, true, true, false, true, true, true, false, false, false] rfl rfl (by kernel_rfl) (fun _ _ _ h => h) (Or.inl ⟨by rfl, ?_⟩) ?_ ?_
      rotate_left
      · intro w'
        go_simp
        with_reducible rfl
      rotate_left
      · simp only [Act.put, List.setIfInBounds_toArray, List.set_cons_zero, List.set_cons_succ, i64_w, i32_w]
        rfl
      refine take_ (i := 3) (N := some 13) (v := ?_) (a' := ?_) #[true, true, true, true, true, true, true, false, false, false] rfl rfl (by kernel_rfl) (fun _ _ _ h => h) (Or.inl ⟨by rfl, ?_⟩) hHeld ?_ ?_
      rotate_left
      · intro w' s0
        go_simp
        with_reducible rfl
      rotate_left
      · simp only [Act.put, List.setIfInBounds_toArray, List.set_cons_zero, List.set_cons_succ, i64_w, i32_w]
        rfl
      refine take_ (i := 7) (N := some 17) (v := ?_) (a' := ?_) #[true, true, true, true, true, true, true, true, false, false] rfl rfl (by kernel_rfl) (fun _ _ _ h => h) (Or.inl ⟨by rfl, ?_⟩) hHeld ?_ ?_
      rotate_left
      · intro w' s0
        go_simp
        with_reducible rfl
      rotate_left
      · simp only [Act.put, List.setIfInBounds_toArray, List.set_cons_zero, List.set_cons_succ, i64_w, i32_w]
        rfl
      refine pure_ (i := 8) (N := some 18) (v := ?_) (a' := ?_) #[true, true, true, true, true, true, true, true, true, false] rfl rfl (by kernel_rfl) (fun _ _ _ h => h) (Or.inl ⟨by rfl, ?_⟩) ?_ ?_
      rotate_left
      · intro w'
        go_simp
        with_reducible rfl
      rotate_left
      · simp only [Act.put, List.setIfInBounds_toArray, List.set_cons_zero, List.set_cons_succ, i64_w, i32_w]
        rfl
      refine pure_ (i := 9) (N := some 19) (v := ?_) (a' := ?_) #[true, true, true, true, true, true, true, true, true, true] rfl rfl (by kernel_rfl) (fun _ _ _ h => h) (Or.inl ⟨by rfl, ?_⟩) ?_ ?_
      rotate_left
      · intro w'
        go_simp
        with_reducible rfl
      rotate_left
      · simp only [Act.put, List.setIfInBounds_toArray, List.set_cons_zero, List.set_cons_succ, i64_w, i32_w]
        rfl
      refine done_ (by kernel_rfl) ?_

      go_wp2_with fail
      go_step3
      go_wp2_with fail
      refine start_ (n := 12) (S := fun w' => w' = wr.drew.drew) (ds := []) #[false, false, false, false, false, false, false, false, false, false, false, false] (by kernel_rfl) rfl rfl (rfl) (fun hHeld => ?_)
      refine pure_ (i := 0) (N := some 20) (v := ?_) (a' := ?_) #[true, false, false, false, false, false, false, false, false, false, false, false] rfl rfl (by kernel_rfl) (fun _ _ _ h => h) (Or.inl ⟨by rfl, ?_⟩) ?_ ?_
      rotate_left
      · intro w'
        go_simp
        with_reducible rfl
      rotate_left
      · simp only [Act.put, List.setIfInBounds_toArray, List.set_cons_zero, List.set_cons_succ, i64_w, i32_w]
        rfl
      refine pure_ (i := 1) (N := some 21) (v := ?_) (a' := ?_) #[true, true, false, false, false, false, false, false, false, false, false, false] rfl rfl (by kernel_rfl) (fun _ _ _ h => h) (Or.inl ⟨by rfl, ?_⟩) ?_ ?_
      rotate_left
      · intro w'
        go_simp
        with_reducible rfl
      rotate_left
      · simp only [Act.put, List.setIfInBounds_toArray, List.set_cons_zero, List.set_cons_succ, i64_w, i32_w]
        rfl
      refine pure_ (i := 2) (N := some 22) (v := ?_) (a' := ?_) #[true, true, true, false, false, false, false, false, false, false, false, false] rfl rfl (by kernel_rfl) (fun _ _ _ h => h) (Or.inl ⟨by rfl, ?_⟩) ?_ ?_
      rotate_left
      · intro w'
        go_simp
        with_reducible rfl
      rotate_left
      · simp only [Act.put, List.setIfInBounds_toArray, List.set_cons_zero, List.set_cons_succ, i64_w, i32_w]
        rfl
      refine pure_ (i := 4) (N := some 24) (v := ?_) (a' := ?_) #[true, true, true, false, true, false, false, false, false, false, false, false] rfl rfl (by kernel_rfl) (fun _ _ _ h => h) (Or.inl ⟨by rfl, ?_⟩) ?_ ?_
      rotate_left
      · intro w'
        go_simp
        with_reducible rfl
      rotate_left
      · simp only [Act.put, List.setIfInBounds_toArray, List.set_cons_zero, List.set_cons_succ, i64_w, i32_w]
        rfl
      refine pure_ (i := 5) (N := some 25) (v := ?_) (a' := ?_) #[true, true, true, false, true, true, false, false, false, false, false, false] rfl rfl (by kernel_rfl) (fun _ _ _ h => h) (Or.inl ⟨by rfl, ?_⟩) ?_ ?_
      rotate_left
      · intro w'
        go_simp
        with_reducible rfl
      rotate_left
      · simp only [Act.put, List.setIfInBounds_toArray, List.set_cons_zero, List.set_cons_succ, i64_w, i32_w]
        rfl
      refine pure_ (i := 6) (N := some 26) (v := ?_) (a' := ?_) #[true, true, true, false, true, true, true, false, false, false, false, false] rfl rfl (by kernel_rfl) (fun _ _ _ h => h) (Or.inl ⟨by rfl, ?_⟩) ?_ ?_
      rotate_left
      · intro w'
        go_simp
        with_reducible rfl
      rotate_left
      · simp only [Act.put, List.setIfInBounds_toArray, List.set_cons_zero, List.set_cons_succ, i64_w, i32_w]
        rfl
      refine take_ (i := 3) (N := some 23) (v := ?_) (a' := ?_) #[true, true, true, true, true, true, true, false, false, false, false, false] rfl rfl (by kernel_rfl) (fun _ _ _ h => h) (Or.inl ⟨by rfl, ?_⟩) hHeld ?_ ?_
      rotate_left
      · intro w' s0
        go_simp
        with_reducible rfl
      rotate_left
      · simp only [Act.put, List.setIfInBounds_toArray, List.set_cons_zero, List.set_cons_succ, i64_w, i32_w]
        rfl
      refine take_ (i := 7) (N := some 27) (v := ?_) (a' := ?_) #[true, true, true, true, true, true, true, true, false, false, false, false] rfl rfl (by kernel_rfl) (fun _ _ _ h => h) (Or.inl ⟨by rfl, ?_⟩) hHeld ?_ ?_
      rotate_left
      · intro w' s0
        go_simp
        with_reducible rfl
      rotate_left
      · simp only [Act.put, List.setIfInBounds_toArray, List.set_cons_zero, List.set_cons_succ, i64_w, i32_w]
        rfl
      refine pure_ (i := 8) (N := some 28) (v := ?_) (a' := ?_) #[true, true, true, true, true, true, true, true, true, false, false, false] rfl rfl (by kernel_rfl) (fun _ _ _ h => h) (Or.inl ⟨by rfl, ?_⟩) ?_ ?_
      rotate_left
      · intro w'
        go_simp
        with_reducible rfl
      rotate_left
      · simp only [Act.put, List.setIfInBounds_toArray, List.set_cons_zero, List.set_cons_succ, i64_w, i32_w]
        rfl
      refine take_ (i := 9) (N := some 29) (v := ?_) (a' := ?_) #[true, true, true, true, true, true, true, true, true, true, false, false] rfl rfl (by kernel_rfl) (fun _ _ _ h => h) (Or.inl ⟨by rfl, ?_⟩) hHeld ?_ ?_
      rotate_left
      · intro w' s0
        go_simp
        with_reducible rfl
      rotate_left
      · simp only [Act.put, List.setIfInBounds_toArray, List.set_cons_zero, List.set_cons_succ, i64_w, i32_w]
        rfl
      refine pure_ (i := 10) (N := some 30) (v := ?_) (a' := ?_) #[true, true, true, true, true, true, true, true, true, true, true, false] rfl rfl (by kernel_rfl) (fun _ _ _ h => h) (Or.inl ⟨by rfl, ?_⟩) ?_ ?_
      rotate_left
      · intro w'
        go_simp
        with_reducible rfl
      rotate_left
      · simp only [Act.put, List.setIfInBounds_toArray, List.set_cons_zero, List.set_cons_succ, i64_w, i32_w]
        rfl
      refine pure_ (i := 11) (N := some 3) (v := ?_) (a' := ?_) #[true, true, true, true, true, true, true, true, true, true, true, true] rfl rfl (by kernel_rfl) (fun _ _ _ h => h) (Or.inl ⟨by rfl, ?_⟩) ?_ ?_
      rotate_left
      · intro w'
        go_simp
        with_reducible rfl
      rotate_left
      · simp only [Act.put, List.setIfInBounds_toArray, List.set_cons_zero, List.set_cons_succ, i64_w, i32_w]
        rfl
      refine done_ (by kernel_rfl) ?_

      go_wp2_with (first
        | ((with_reducible refine gate_store (t := 3) (p := 37) (v := .tmp 35) rfl ?_); refine ev_store rfl H.out.drew.drew (i := 0) rfl 11 (.int .i64 ((nx : Int) + 1)) rfl ?hr ?_; (case hr => first | (go_simp; done) | (go_simp; rfl)); intro w3_ H1; clear H cS fS zt; have H := Aside0.mk (show St w U w3_ [blk b #[.slice A0 S1.l.length c0, .int .i64 S1.added, .map (some gw), .slice A3 S1.is.length c3, .slice A4 S1.level.length c4, .slice A5 S1.why.length c5, .slice A6 S1.act.length c6, .slice A7 S1.last.length c7, .int .i64 S1.bump, .slice (some ⟨g9, 0, none⟩) S1.trail.length c9, .slice A10 S1.starts.length c10, .int .i64 ((nx : Int) + 1), .int .i64 S1.vars, .bool S1.nothing] 50, ir A3 S1.is.length c3 S1.is, ir A4 S1.level.length c4 S1.level, ir A5 S1.why.length c5 S1.why, ir A6 S1.act.length c6 S1.act, ir A7 S1.last.length c7 S1.last, ir (some ⟨g9, 0, none⟩) S1.trail.length c9 S1.trail, ir A10 S1.starts.length c10 S1.starts, rr A0 S1.l.length c0 (S1.l.map .own), wm gw (bareE x Bx nw cx S1.watch), ir Bx nw cx ws] from H1); clear H1; have hlk := HLK.out _ _ 9 _ H.out rfl; have cS := H.out.cell (i := 0) rfl))
      go_step3
      go_wp2_with fail
      have h3 : St w U w3_ [solG b { S1 with next := (nx : Int) + 1 } (S1.l.map .own) (bareE x Bx nw cx S1.watch), ir Bx nw cx ws] := st_shut (S := { S1 with next := (nx : Int) + 1 }) ⟨A0, c0, gw, A3, c3, A4, c4, A5, c5, A6, c6, A7, c7, some ⟨g9, 0, none⟩, c9, A10, c10⟩ H.out
      have H0 := Aside0.mk (((st_nil h3).perm (perm_idx [1, 2, 0] (by rfl) rfl)))
      clear H h3 cS hlk d1 d2 p1 p2 p3
      go_loopg [46, 5, 2] (nw + 1) (fun kq v46 v5 v2 wr => ∃ (i : Nat) (T : Sol) (left : List Int) (Al : Option Addr) (cl : Nat), v46 = .int .i64 (i : Int) ∧ v5 = .slice Al left.length cl ∧ v2 = .int .i64 0 ∧ Aside0 (i ≤ nw) ∧ Aside0 (nw - i < kq) ∧ Aside0 (Sat.look x (ws.drop i) T left = some (S2, k2)) ∧ Aside0 (Bd T) ∧ Aside0 (St w U wr [solG b T (T.l.map .own) (bareE x Bx nw cx T.watch), ir Bx nw cx ws, ir Al left.length cl left]))
      case atStart => exact ⟨0, { S1 with next := (nx : Int) + 1 }, [], none, 0, rfl, rfl, rfl, ⟨Nat.zero_le _⟩, ⟨by omega⟩, ⟨HLOOK.out⟩, HBd2, H0⟩
      case round =>
        clear H0 HLOOK HBd2 HLK
        obtain ⟨i, T, left, Al, cl, rfl, rfl, rfl, HI, HQ1, HL, HBd, H0⟩ := hrel
        cases gk with
        | zero => exact absurd HQ1.out (by have := HI.out; omega)
        | succ k2' =>
        have h := HL.out
        by_cases hi : i < nw
        case neg =>
          have hie : i = nw := by have := HI.out; omega
          rw [List.drop_of_length_le (by have := HWS.out; omega), Sat.look] at h
          have h7 := Option.some.inj h
          simp only [Prod.mk.injEq] at h7
          obtain ⟨rfl, rfl⟩ := h7
          have hf := HFN.out
          rw [if_neg (by decide)] at hf
          have HF2 := Aside0.mk hf
          have HND := Aside0.mk (st_nodup H0.out)
          obtain ⟨r, h2⟩ := st_open H0.out
          obtain ⟨A0, c0, gw, A3, c3, A4, c4, A5, c5, A6, c6, A7, c7, A9, c9, A10, c10⟩ := r
          have cS := h2.cell (i := 0) rfl
          dsimp only [cells] at cS
          obtain ⟨w8, hmu, h8⟩ := h2.wm_update (P := Try.prog) (i := 9) rfl Try.underlying48 Try.underlying3 x Al left.length cl
          have H8 := Aside0.mk (show St w U w8 [solG b T (T.l.map .own) (wset (bareE x Bx nw cx T.watch) x (.bare Al left.length cl)), ir Bx nw cx ws, ir Al left.length cl left] from st_shut (S := T) ⟨A0, c0, gw, A3, c3, A4, c4, A5, c5, A6, c6, A7, c7, A9, c9, A10, c10⟩ h8)
          have d1 : decide (i < nw) = false := decide_eq_false hi
          have d2 : decide ((i : Int) < (nw : Int)) = false := decide_eq_false (by omega)
          clear h hf hi hie h2 h8 H0
          go_wp2_with fail
          go_roundg k1
          case measure => have := HQ.out; omega
          case rel => exact ⟨f1, T.wset x left, rfl, ⟨Nat.lt_of_succ_lt_succ HQ.out⟩, HF2, HBd, ⟨((st_in HND.out (H8.out.perm (perm_idx [0, 2, 1] (by rfl) rfl))).perm (perm_idx [1, 0] (by rfl) rfl)).drop⟩⟩
        case pos =>
          obtain ⟨k, hk⟩ : ∃ k, ws[i]? = some k := ⟨_, List.getElem?_eq_getElem (by have := HWS.out; omega)⟩
          have hd : ws.drop i = k :: ws.drop (i + 1) := by
            rw [List.drop_eq_getElem_cons (by have := HWS.out; omega), (List.getElem?_eq_some_iff.1 hk).2]
          rw [hd, Sat.look] at h
          obtain ⟨l0, hl0⟩ : ∃ l0, T.l[k.toNat]? = some l0 := by
            match hq : T.l[k.toNat]? with
            | none => rw [hq] at h; cases h
            | some z => exact ⟨z, rfl⟩
          rw [hl0] at h
          dsimp only at h
          obtain ⟨kk, rfl⟩ : ∃ kk : Nat, k = (kk : Int) := by
            by_cases hk0 : k < 0
            · rw [if_pos (.inl hk0)] at h; cases h
            · exact ⟨k.toNat, by omega⟩
          rw [Int.toNat_natCast] at h hl0
          by_cases hc : (kk : Int) < 0 ∨ l0.length < 2 ∨ 1000000000 < left.length + (ws.drop (i + 1)).length
          · rw [if_pos hc] at h; cases h
          rw [if_neg hc] at h
          have hkl := (List.getElem?_eq_some_iff.1 hl0).1
          obtain ⟨c0_, hc0⟩ : ∃ c, l0[0]? = some c := ⟨_, List.getElem?_eq_getElem (by omega)⟩
          obtain ⟨c1, hc1⟩ : ∃ c, l0[1]? = some c := ⟨_, List.getElem?_eq_getElem (by omega)⟩
          have hg0 : l0.getD 0 0 = c0_ := by rw [List.getD_eq_getElem?_getD, hc0]; rfl
          have hg1 : l0.getD 1 0 = c1 := by rw [List.getD_eq_getElem?_getD, hc1]; rfl
          obtain ⟨l, hl⟩ : ∃ l, l = if l0.getD 0 0 = x then swp l0 0 1 else l0 := ⟨_, rfl⟩
          rw [← hl] at h
          obtain ⟨B, nl, dl, h1⟩ := st_take (j := kk) (l := l0) (by rw [List.getElem?_map, hl0]; rfl) H0.out
          have hnl := h1.ir_len (i := 1) rfl
          have hncap := h1.ir_cap (i := 1) rfl
          obtain ⟨gl, rfl⟩ := h1.ir_some (i := 1) rfl (by omega)
          have HNL := Aside0.mk (show l0.length = nl ∧ 2 ≤ nl ∧ (nl : Int) ≤ 9223372036854775807 by unfold maxLen at hncap; omega)
          have HKK := Aside0.mk hkl
          have HLB := Aside0.mk (show left.length ≤ 1000000000 by omega)
          have HLB2 := Aside0.mk (show nw - (i + 1) ≤ 1000000000 by have := HWS.out; rw [List.length_drop] at hc; omega)
          obtain ⟨r, h2⟩ := st_open h1
          obtain ⟨g0, e0⟩ := h2.rr_some (i := 8) rfl (by omega)
          obtain ⟨A0, c0, gw, A3, c3, A4, c4, A5, c5, A6, c6, A7, c7, A9, c9, A10, c10⟩ := r
          dsimp only at e0
          subst e0
          have cS := h2.cell (i := 0) rfl
          dsimp only [cells] at cS
          have z8 := h2.rr_cell (i := 8) rfl (j := kk) (B := some ⟨gl, 0, none⟩) (k := nl) (d := dl) (by rw [List.getElem?_set_self (by rw [List.length_map]; exact hkl)])
          obtain ⟨gx, ex⟩ := h1.ir_some (i := 2) rfl (by omega)
          have zx : ∀ g, Bx = some ⟨g, 0, none⟩ → wr.cell? ⟨g, i, none⟩ = some (.int .i64 (kk : Int)) := fun g e => by subst e; exact h1.ir_cell (i := 2) rfl hk
          have zx := zx gx ex
          have z0 := h1.ir_cell (i := 1) rfl hc0
          have z1 := h1.ir_cell (i := 1) rfl hc1
          have fl := h1.ir_frz (i := 1) rfl
          clear H0
          have H0 := Aside0.mk h1
          subst ex
          have p1 : ((i : Int) < (nw : Int)) = True := eq_true (by omega)
          have p2 : (i < nw) = True := eq_true hi
          have p3 : (0 ≤ (i : Int)) = True := eq_true (by omega)
          have d1 : decide (i < nw) = true := decide_eq_true hi
          have d2 : decide ((i : Int) < (nw : Int)) = true := decide_eq_true (by omega)
          have p4 : ((kk : Int) < (T.l.length : Int)) = True := eq_true (by omega)
          have p5 : (kk < T.l.length) = True := eq_true hkl
          have p6 : (0 ≤ (kk : Int)) = True := eq_true (by omega)
          have p7 : ((0 : Int) < (nl : Int)) = True := eq_true (by omega)
          have p8 : (0 < nl) = True := eq_true (by omega)
          have p9 : ((1 : Int) < (nl : Int)) = True := eq_true (by omega)
          have p10 : (1 < nl) = True := eq_true (by omega)
          have hi64 : (i : Int) ≤ 9223372036854775806 := by omega
          have hlen : l.length = nl := by
            rw [hl]
            by_cases e : l0.getD 0 0 = x
            · rw [if_pos e]; unfold swp; rw [List.length_set, List.length_set]; exact hnl
            · rw [if_neg e]; exact hnl
          have HX0 := Aside0.mk (show l[0]? = some (l.getD 0 0) by rw [List.getD_eq_getElem?_getD, List.getElem?_eq_getElem (by omega)]; rfl)
          have HR2 := Aside0.mk h
          have HC1 := Aside0.mk hc1
          have HI2 := Aside0.mk hi
          have HLL := Aside0.mk hlen
          clear hlen
          obtain ⟨y0, hy0⟩ : ∃ y0, l.getD 0 0 = y0 := ⟨_, rfl⟩
          have HX1 := Aside0.mk (show l[0]? = some y0 by rw [← hy0]; exact HX0.out)
          have HY0 := Aside0.mk hy0
          by_cases hsw : c0_ = x
          case' pos =>
            have d3 : (c0_ == x) = true := beq_iff_eq.2 hsw
            have hle : l = (l0.set 0 c1).set 1 c0_ := by rw [hl, hg0, if_pos hsw]; unfold swp; rw [hg0, hg1]
            clear h hd hk hl0 hc hkl hc0 hc1 hg0 hg1 hl hnl hncap h1 h2 hi hsw hy0
            go_wp2_with fail
            refine start_ (n := 12) (S := fun w' => w' = wr.drew) (ds := [9, 11]) #[false, false, false, false, false, false, false, false, false, false, false, false] (by kernel_rfl) rfl rfl (rfl) (fun hHeld => ?_)
            refine pure_ (i := 0) (N := some 63) (v := ?_) (a' := ?_) #[true, false, false, false, false, false, false, false, false, false, false, false] rfl rfl (by kernel_rfl) (fun _ _ _ h => h) (Or.inl ⟨by rfl, ?_⟩) ?_ ?_
            rotate_left
            · intro w'
              go_simp
              with_reducible rfl
            rotate_left
            · simp only [Act.put, List.setIfInBounds_toArray, List.set_cons_zero, List.set_cons_succ, i64_w, i32_w]
              rfl
            refine pure_ (i := 1) (N := some 64) (v := ?_) (a' := ?_) #[true, true, false, false, false, false, false, false, false, false, false, false] rfl rfl (by kernel_rfl) (fun _ _ _ h => h) (Or.inl ⟨by rfl, ?_⟩) ?_ ?_
            rotate_left
            · intro w'
              go_simp
              with_reducible rfl
            rotate_left
            · simp only [Act.put, List.setIfInBounds_toArray, List.set_cons_zero, List.set_cons_succ, i64_w, i32_w]
              rfl
            refine pure_ (i := 2) (N := some 65) (v := ?_) (a' := ?_) #[true, true, true, false, false, false, false, false, false, false, false, false] rfl rfl (by kernel_rfl) (fun _ _ _ h => h) (Or.inl ⟨by rfl, ?_⟩) ?_ ?_
            rotate_left
            · intro w'
              go_simp
              with_reducible rfl
            rotate_left
            · simp only [Act.put, List.setIfInBounds_toArray, List.set_cons_zero, List.set_cons_succ, i64_w, i32_w]
              rfl
            refine pure_ (i := 3) (N := some 66) (v := ?_) (a' := ?_) #[true, true, true, true, false, false, false, false, false, false, false, false] rfl rfl (by kernel_rfl) (fun _ _ _ h => h) (Or.inl ⟨by rfl, ?_⟩) ?_ ?_
            rotate_left
            · intro w'
              go_simp
              with_reducible rfl
            rotate_left
            · simp only [Act.put, List.setIfInBounds_toArray, List.set_cons_zero, List.set_cons_succ, i64_w, i32_w]
              rfl
            refine pure_ (i := 5) (N := some 68) (v := ?_) (a' := ?_) #[true, true, true, true, false, true, false, false, false, false, false, false] rfl rfl (by kernel_rfl) (fun _ _ _ h => h) (Or.inl ⟨by rfl, ?_⟩) ?_ ?_
            rotate_left
            · intro w'
              go_simp
              with_reducible rfl
            rotate_left
            · simp only [Act.put, List.setIfInBounds_toArray, List.set_cons_zero, List.set_cons_succ, i64_w, i32_w]
              rfl
            refine pure_ (i := 6) (N := some 69) (v := ?_) (a' := ?_) #[true, true, true, true, false, true, true, false, false, false, false, false] rfl rfl (by kernel_rfl) (fun _ _ _ h => h) (Or.inl ⟨by rfl, ?_⟩) ?_ ?_
            rotate_left
            · intro w'
              go_simp
              with_reducible rfl
            rotate_left
            · simp only [Act.put, List.setIfInBounds_toArray, List.set_cons_zero, List.set_cons_succ, i64_w, i32_w]
              rfl
            refine take_ (i := 4) (N := some 67) (v := ?_) (a' := ?_) #[true, true, true, true, true, true, true, false, false, false, false, false] rfl rfl (by kernel_rfl) (fun _ _ _ h => h) (Or.inl ⟨by rfl, ?_⟩) hHeld ?_ ?_
            rotate_left
            · intro w' s0
              go_simp
              with_reducible rfl
            rotate_left
            · simp only [Act.put, List.setIfInBounds_toArray, List.set_cons_zero, List.set_cons_succ, i64_w, i32_w]
              rfl
            refine take_ (i := 7) (N := some 70) (v := ?_) (a' := ?_) #[true, true, true, true, true, true, true, true, false, false, false, false] rfl rfl (by kernel_rfl) (fun _ _ _ h => h) (Or.inl ⟨by rfl, ?_⟩) hHeld ?_ ?_
            rotate_left
            · intro w' s0
              go_simp
              with_reducible rfl
            rotate_left
            · simp only [Act.put, List.setIfInBounds_toArray, List.set_cons_zero, List.set_cons_succ, i64_w, i32_w]
              rfl
            refine pure_ (i := 8) (N := some 71) (v := ?_) (a' := ?_) #[true, true, true, true, true, true, true, true, true, false, false, false] rfl rfl (by kernel_rfl) (fun _ _ _ h => h) (Or.inl ⟨by rfl, ?_⟩) ?_ ?_
            rotate_left
            · intro w'
              go_simp
              with_reducible rfl
            rotate_left
            · simp only [Act.put, List.setIfInBounds_toArray, List.set_cons_zero, List.set_cons_succ, i64_w, i32_w]
              rfl
            refine last_ (i := 9) (N := none) #[true, true, true, true, true, true, true, true, true, true, false, false] rfl rfl (by kernel_rfl) (by decide) (fun K hK => ?_)
            refine st_set (by rfl) rfl H0.out.drew (i := 1) rfl 0 c1 (by have := HNL.out; omega) ?hr ?_
            (case hr => first | (go_simp; done) | (go_simp; rfl))
            intro w20_ H1
            clear H0 z0 z1 fl
            have H0 := Aside0.mk (show St w U w20_ [solG b T ((T.l.map .own).set kk (.bare (some ⟨gl, 0, none⟩) nl dl)) (bareE x (some ⟨gx, 0, none⟩) nw cx T.watch), ir (some ⟨gl, 0, none⟩) nl dl (l0.set 0 c1), ir (some ⟨gx, 0, none⟩) nw cx ws, ir Al (left.length) cl (left)] from H1)
            clear H1
            have fl := H0.out.ir_frz (i := 1) rfl
            have z1 := H0.out.ir_cell (i := 1) rfl (show (l0.set 0 c1)[1]? = some c1 by rw [List.getElem?_set_ne (by omega)]; exact HC1.out)
            refine hK.out _ _ ?_
            clear hK K
            refine pure_ (i := 10) (N := some 72) (v := ?_) (a' := ?_) #[true, true, true, true, true, true, true, true, true, true, true, false] rfl rfl (by kernel_rfl) (fun _ _ _ h => h) (Or.inl ⟨by rfl, ?_⟩) ?_ ?_
            rotate_left
            · intro w'
              go_simp
              with_reducible rfl
            rotate_left
            · simp only [Act.put, List.setIfInBounds_toArray, List.set_cons_zero, List.set_cons_succ, i64_w, i32_w]
              rfl
            refine last_ (i := 11) (N := none) #[true, true, true, true, true, true, true, true, true, true, true, true] rfl rfl (by kernel_rfl) (by decide) (fun K hK => ?_)
            refine st_set (by rfl) rfl H0.out (i := 1) rfl 1 c0_ (by have := HNL.out; omega) ?hr2 ?_
            (case hr2 => first | (go_simp; done) | (go_simp; rfl))
            intro wv H1
            clear H0 fl z1
            have H0 := Aside0.mk (show St w U wv [solG b T ((T.l.map .own).set kk (.bare (some ⟨gl, 0, none⟩) nl dl)) (bareE x (some ⟨gx, 0, none⟩) nw cx T.watch), ir (some ⟨gl, 0, none⟩) nl dl ((l0.set 0 c1).set 1 c0_), ir (some ⟨gx, 0, none⟩) nw cx ws, ir Al (left.length) cl (left)] from H1)
            clear H1
            refine hK.out _ _ ?_
            clear hK K
            refine done_ (by kernel_rfl) ?_

            rw [← hle] at H0
            clear hle d3 cS z8 zx
          case' neg =>
            have d3 : (c0_ == x) = false := beq_eq_false_iff_ne.2 hsw
            have hle : l = l0 := by rw [hl, hg0, if_neg hsw]
            rw [← hle] at H0
            obtain rfl : y0 = c0_ := by rw [← hy0, hle, hg0]
            clear h hd hk hl0 hc hkl hc0 hc1 hg0 hg1 hl hnl hncap h1 h2 hi hsw hle hy0
            go_wp2_with fail
            clear d3 cS z8 zx z0 z1 fl
            generalize wr = wv at *
          all_goals
            have h := HR2.out
            have hnis := HBd.out.1
            have HNI := Aside0.mk hnis
            rw [HY0.out] at h
            obtain ⟨t, ht⟩ : ∃ t, (T.setL kk l).truth y0 = some t := by
              match hq : (T.setL kk l).truth y0 with
              | none => rw [hq] at h; cases h
              | some z => exact ⟨z, rfl⟩
            rw [ht] at h
            dsimp only at h
            have HTR := Aside0.mk (show T.truth y0 = some t from ht)
            have zl := H0.out.ir_cell (i := 1) rfl HX1.out
            by_cases ht1 : t = 1
            · rw [if_pos ht1] at h
              have HL2 := Aside0.mk h
              have d4 : (t == 1) = true := beq_iff_eq.2 ht1
              clear h ht ht1 hnis
              go_wp2_with (first
                | (go_at_call 37; (with_reducible refine (q_truthM H0.out.sep HTR.out HNI.out).mono ?_); rintro e w' ⟨rfl, rfl⟩)
                | ((with_reducible refine gate_dst (N := 81) rfl ?_); refine ev_lit rfl H0.out (n := 1) (cs := #[.int .i64 (kk : Int)]) (t := 3) ?hr ?_; (case hr => first | (go_simp; done) | (go_simp; rfl)); intro gt w21_ H1; clear H0 zl; have H0 := Aside0.mk (show St w U w21_ [blk gt #[.int .i64 (kk : Int)] 3, solG b T ((T.l.map .own).set kk (.bare (some ⟨gl, 0, none⟩) nl dl)) (bareE x (some ⟨gx, 0, none⟩) nw cx T.watch), ir (some ⟨gl, 0, none⟩) nl dl l, ir (some ⟨gx, 0, none⟩) nw cx ws, ir Al (left.length) cl (left)] from H1); clear H1)
                | ((with_reducible refine gate_builtin (b := .append) (xs := #[.tmp 79, .tmp 81]) rfl ?_); refine ev_append rfl H0.out (i := 4) rfl (s := .tmp 79) (x := .tmp 81) rfl Try.underlying23 infoI rfl rfl (m := 1) (ys := [(kk : Int)]) rfl (Rdc.blk1 (H0.out.blk (i := 0) rfl)) (by have := HLB.out; omega) ?_; intro Al2 cl2 w22_ H1; have H1 := H1.drop; clear H0; have H0 := Aside0.mk (show St w U w22_ [solG b T ((T.l.map .own).set kk (.bare (some ⟨gl, 0, none⟩) nl dl)) (bareE x (some ⟨gx, 0, none⟩) nw cx T.watch), ir (some ⟨gl, 0, none⟩) nl dl l, ir (some ⟨gx, 0, none⟩) nw cx ws, ir Al2 (left.length + 1) cl2 (left ++ [(kk : Int)])] from H1); clear H1; have zl := H0.out.ir_cell (i := 1) rfl HX1.out))
              go_roundg k2'
              case measure => have := HI2.out; have := HQ1.out; omega
              case rel => exact ⟨i + 1, T.setL kk l, left ++ [(kk : Int)], Al2, cl2, by go_num, by rw [List.length_append]; rfl, rfl, ⟨by have := HI2.out; omega⟩, ⟨by have := HI2.out; have := HQ1.out; omega⟩, HL2, HBd, ⟨by rw [List.length_append]; exact look_give HKK.out H0.out⟩⟩
            · rw [if_neg ht1] at h
              have d4 : (t == 1) = false := beq_eq_false_iff_ne.2 ht1
              obtain ⟨fd, hfd⟩ : ∃ fd, (T.setL kk l).find (l.drop 2) 2 = some fd := by
                match hq : (T.setL kk l).find (l.drop 2) 2 with
                | none => rw [hq] at h; cases h
                | some z => exact ⟨z, rfl⟩
              rw [hfd] at h
              have HFD := Aside0.mk hfd
              have HR3 := Aside0.mk h
              clear h hfd ht ht1 hnis HR2
              go_wp2_with (first
                | (go_at_call 37; (with_reducible refine (q_truthM H0.out.sep HTR.out HNI.out).mono ?_); rintro e w' ⟨rfl, rfl⟩))
              clear zl d4
              go_loopg [9] (nl + 1) (fun kq v9 wr => ∃ (j : Nat), v9 = .int .i64 (j : Int) ∧ Aside0 (2 ≤ j) ∧ Aside0 (j ≤ nl) ∧ Aside0 (nl - j < kq) ∧ Aside0 ((T.setL kk l).find (l.drop j) j = some fd) ∧ Aside0 (St w U wr [solG b T ((T.l.map .own).set kk (.bare (some ⟨gl, 0, none⟩) nl dl)) (bareE x (some ⟨gx, 0, none⟩) nw cx T.watch), ir (some ⟨gl, 0, none⟩) nl dl l, ir (some ⟨gx, 0, none⟩) nw cx ws, ir Al (left.length) cl (left)]))
              case atStart => exact ⟨2, rfl, ⟨Nat.le_refl _⟩, ⟨HNL.out.2.1⟩, ⟨by omega⟩, HFD, H0⟩
              case round =>
                clear H0 HFD
                obtain ⟨j, rfl, HJ2, HJN, HQ2, HFD, H0⟩ := hrel
                cases gk with
                | zero => exact absurd HQ2.out (by have := HJN.out; omega)
                | succ k3 =>
                have h := HFD.out
                by_cases hj : j < nl
                case neg =>
                  have hje : j = nl := by have := HJN.out; omega
                  rw [List.drop_of_length_le (by have := HLL.out; omega), Sol.find] at h
                  obtain rfl := Option.some.inj h
                  have h := HR3.out
                  dsimp only at h
                  have d5 : decide (j < nl) = false := decide_eq_false hj
                  have d6 : decide ((j : Int) < (nl : Int)) = false := decide_eq_false (by omega)
                  have zl : True := trivial
                  clear hj hje
                  by_cases ht2 : t = -1
                  · rw [if_pos ht2] at h
                    have h7 := Option.some.inj h
                    simp only [Prod.mk.injEq] at h7
                    obtain ⟨rfl, rfl⟩ := h7
                    have hf := HFN.out
                    rw [if_pos (by omega)] at hf
                    have h8 := Option.some.inj hf
                    simp only [Prod.mk.injEq] at h8
                    obtain ⟨rfl, rfl⟩ := h8
                    have d7 : (t == -1) = true := beq_iff_eq.2 ht2
                    clear h hf ht2
                    go_wp2_with (first
                      | ((with_reducible refine gate_dst (N := 128) rfl ?_); refine ev_lit rfl H0.out (n := 1) (cs := #[.int .i64 (kk : Int)]) (t := 3) ?hr ?_; (case hr => first | (go_simp; done) | (go_simp; rfl)); intro gt w21_ H1; clear H0 zl; have H0 := Aside0.mk (show St w U w21_ [blk gt #[.int .i64 (kk : Int)] 3, solG b T ((T.l.map .own).set kk (.bare (some ⟨gl, 0, none⟩) nl dl)) (bareE x (some ⟨gx, 0, none⟩) nw cx T.watch), ir (some ⟨gl, 0, none⟩) nl dl l, ir (some ⟨gx, 0, none⟩) nw cx ws, ir Al (left.length) cl (left)] from H1); clear H1)
                      | ((with_reducible refine gate_builtin (b := .append) (xs := #[.tmp 126, .tmp 128]) rfl ?_); refine ev_append rfl H0.out (i := 4) rfl (s := .tmp 126) (x := .tmp 128) rfl Try.underlying23 infoI rfl rfl (m := 1) (ys := [(kk : Int)]) rfl (Rdc.blk1 (H0.out.blk (i := 0) rfl)) (by have := HLB.out; omega) ?_; intro Al2 cl2 w22_ H1; have H1 := H1.drop; clear H0; have H0 := Aside0.mk (show St w U w22_ [solG b T ((T.l.map .own).set kk (.bare (some ⟨gl, 0, none⟩) nl dl)) (bareE x (some ⟨gx, 0, none⟩) nw cx T.watch), ir (some ⟨gl, 0, none⟩) nl dl l, ir (some ⟨gx, 0, none⟩) nw cx ws, ir Al2 (left.length + 1) cl2 (left ++ [(kk : Int)])] from H1); clear H1; have zl := H0.out.ir_cell (i := 1) rfl HX1.out)
                      | (go_at_call 37; (with_reducible refine (q_truthM H0.out.sep HTR.out HNI.out).mono ?_); rintro e w' ⟨rfl, rfl⟩))
                    have h3 := look_give HKK.out H0.out
                    have HND := Aside0.mk (st_nodup h3)
                    obtain ⟨r, h2⟩ := st_open h3
                    obtain ⟨A0, c0, gw, A3, c3, A4, c4, A5, c5, A6, c6, A7, c7, A9, c9, A10, c10⟩ := r
                    have cS := h2.cell (i := 0) rfl
                    dsimp only [cells] at cS
                    have H := Aside0.mk (show St w U w22_ [blk b #[.slice A0 (T.setL kk l).l.length c0, .int .i64 (T.setL kk l).added, .map (some gw), .slice A3 (T.setL kk l).is.length c3, .slice A4 (T.setL kk l).level.length c4, .slice A5 (T.setL kk l).why.length c5, .slice A6 (T.setL kk l).act.length c6, .slice A7 (T.setL kk l).last.length c7, .int .i64 (T.setL kk l).bump, .slice A9 (T.setL kk l).trail.length c9, .slice A10 (T.setL kk l).starts.length c10, .int .i64 (T.setL kk l).next, .int .i64 (T.setL kk l).vars, .bool (T.setL kk l).nothing] 50, ir A3 (T.setL kk l).is.length c3 (T.setL kk l).is, ir A4 (T.setL kk l).level.length c4 (T.setL kk l).level, ir A5 (T.setL kk l).why.length c5 (T.setL kk l).why, ir A6 (T.setL kk l).act.length c6 (T.setL kk l).act, ir A7 (T.setL kk l).last.length c7 (T.setL kk l).last, ir A9 (T.setL kk l).trail.length c9 (T.setL kk l).trail, ir A10 (T.setL kk l).starts.length c10 (T.setL kk l).starts, rr A0 (T.setL kk l).l.length c0 ((T.setL kk l).l.map .own), wm gw (bareE x (some ⟨gx, 0, none⟩) nw cx T.watch), ir (some ⟨gx, 0, none⟩) nw cx ws, ir Al2 (left.length + 1) cl2 (left ++ [(kk : Int)])] from h2)
                    have q1 : ((i : Int) + 1 ≤ (nw : Int)) = True := eq_true (by have := HI2.out; omega)
                    have q2 : (i + 1 ≤ nw) = True := eq_true (by have := HI2.out; omega)
                    have q3 : (0 ≤ (i : Int) + 1) = True := eq_true (by omega)
                    have q4 : wrap64 ((i : Int) + 1) = (i : Int) + 1 := by unfold wrap64; omega
                    have q5 : ((i : Int) + 1).toNat = i + 1 := by omega
                    clear h2 h3 H0 d5 d6 zl
                    refine start_ (n := 12) (S := fun w' => (∀ j : Nat, w'.cell? ⟨b, j, none⟩ = (#[.slice A0 (T.setL kk l).l.length c0, .int .i64 (T.setL kk l).added, .map (some gw), .slice A3 (T.setL kk l).is.length c3, .slice A4 (T.setL kk l).level.length c4, .slice A5 (T.setL kk l).why.length c5, .slice A6 (T.setL kk l).act.length c6, .slice A7 (T.setL kk l).last.length c7, .int .i64 (T.setL kk l).bump, .slice A9 (T.setL kk l).trail.length c9, .slice A10 (T.setL kk l).starts.length c10, .int .i64 (T.setL kk l).next, .int .i64 (T.setL kk l).vars, .bool (T.setL kk l).nothing] : Array Value)[j]?)) (ds := [11]) #[false, false, false, false, false, false, false, false, false, false, false, false] (by kernel_rfl) rfl rfl ((H.out.drew.cell (i := 0) rfl)) (fun hHeld => ?_)
                    refine pure_ (i := 0) (N := some 136) (v := ?_) (a' := ?_) #[true, false, false, false, false, false, false, false, false, false, false, false] rfl rfl (by kernel_rfl) (fun _ _ _ h => h) (Or.inl ⟨by rfl, ?_⟩) ?_ ?_
                    rotate_left
                    · intro w'
                      go_simp
                      with_reducible rfl
                    rotate_left
                    · simp only [Act.put, List.setIfInBounds_toArray, List.set_cons_zero, List.set_cons_succ, i64_w, i32_w]
                      rfl
                    refine pure_ (i := 1) (N := some 137) (v := ?_) (a' := ?_) #[true, true, false, false, false, false, false, false, false, false, false, false] rfl rfl (by kernel_rfl) (fun _ _ _ h => h) (Or.inl ⟨by rfl, ?_⟩) ?_ ?_
                    rotate_left
                    · intro w'
                      go_simp
                      with_reducible rfl
                    rotate_left
                    · simp only [Act.put, List.setIfInBounds_toArray, List.set_cons_zero, List.set_cons_succ, i64_w, i32_w]
                      rfl
                    refine pure_ (i := 2) (N := some 138) (v := ?_) (a' := ?_) #[true, true, true, false, false, false, false, false, false, false, false, false] rfl rfl (by kernel_rfl) (fun _ _ _ h => h) (Or.inl ⟨by rfl, ?_⟩) ?_ ?_
                    rotate_left
                    · intro w'
                      go_simp
                      with_reducible rfl
                    rotate_left
                    · simp only [Act.put, List.setIfInBounds_toArray, List.set_cons_zero, List.set_cons_succ, i64_w, i32_w]
                      rfl
                    refine pure_ (i := 4) (N := some 140) (v := ?_) (a' := ?_) #[true, true, true, false, true, false, false, false, false, false, false, false] rfl rfl (by kernel_rfl) (fun _ _ _ h => h) (Or.inl ⟨by rfl, ?_⟩) ?_ ?_
                    rotate_left
                    · intro w'
                      go_simp
                      with_reducible rfl
                    rotate_left
                    · simp only [Act.put, List.setIfInBounds_toArray, List.set_cons_zero, List.set_cons_succ, i64_w, i32_w]
                      rfl
                    refine pure_ (i := 5) (N := some 141) (v := ?_) (a' := ?_) #[true, true, true, false, true, true, false, false, false, false, false, false] rfl rfl (by kernel_rfl) (fun _ _ _ h => h) (Or.inl ⟨by rfl, ?_⟩) ?_ ?_
                    rotate_left
                    · intro w'
                      go_simp
                      with_reducible rfl
                    rotate_left
                    · simp only [Act.put, List.setIfInBounds_toArray, List.set_cons_zero, List.set_cons_succ, i64_w, i32_w]
                      rfl
                    refine pure_ (i := 6) (N := some 142) (v := ?_) (a' := ?_) #[true, true, true, false, true, true, true, false, false, false, false, false] rfl rfl (by kernel_rfl) (fun _ _ _ h => h) (Or.inl ⟨by rfl, ?_⟩) ?_ ?_
                    rotate_left
                    · intro w'
                      go_simp
                      with_reducible rfl
                    rotate_left
                    · simp only [Act.put, List.setIfInBounds_toArray, List.set_cons_zero, List.set_cons_succ, i64_w, i32_w]
                      rfl
                    refine pure_ (i := 7) (N := some 143) (v := ?_) (a' := ?_) #[true, true, true, false, true, true, true, true, false, false, false, false] rfl rfl (by kernel_rfl) (fun _ _ _ h => h) (Or.inl ⟨by rfl, ?_⟩) ?_ ?_
                    rotate_left
                    · intro w'
                      go_simp
                      with_reducible rfl
                    rotate_left
                    · simp only [Act.put, List.setIfInBounds_toArray, List.set_cons_zero, List.set_cons_succ, i64_w, i32_w]
                      rfl
                    refine pure_ (i := 8) (N := some 144) (v := ?_) (a' := ?_) #[true, true, true, false, true, true, true, true, true, false, false, false] rfl rfl (by kernel_rfl) (fun _ _ _ h => h) (Or.inl ⟨by rfl, ?_⟩) ?_ ?_
                    rotate_left
                    · intro w'
                      go_simp
                      with_reducible rfl
                    rotate_left
                    · simp only [Act.put, List.setIfInBounds_toArray, List.set_cons_zero, List.set_cons_succ, i64_w, i32_w]
                      rfl
                    refine pure_ (i := 9) (N := some 145) (v := ?_) (a' := ?_) #[true, true, true, false, true, true, true, true, true, true, false, false] rfl rfl (by kernel_rfl) (fun _ _ _ h => h) (Or.inl ⟨by rfl, ?_⟩) ?_ ?_
                    rotate_left
                    · intro w'
                      go_simp
                      with_reducible rfl
                    rotate_left
                    · simp only [Act.put, List.setIfInBounds_toArray, List.set_cons_zero, List.set_cons_succ, i64_w, i32_w]
                      rfl
                    refine take_ (i := 3) (N := some 139) (v := ?_) (a' := ?_) #[true, true, true, true, true, true, true, true, true, true, false, false] rfl rfl (by kernel_rfl) (fun _ _ _ h => h) (Or.inl ⟨by rfl, ?_⟩) hHeld ?_ ?_
                    rotate_left
                    · intro w' s0
                      go_simp
                      with_reducible rfl
                    rotate_left
                    · simp only [Act.put, List.setIfInBounds_toArray, List.set_cons_zero, List.set_cons_succ, i64_w, i32_w]
                      rfl
                    refine one_ (i := 10) (N := some 146) #[true, true, true, true, true, true, true, true, true, true, true, false] rfl rfl (by kernel_rfl) (by decide) (fun K hK => ?_)
                    refine st_append (by rfl) rfl H.out.drew (i := 11) rfl (s := .tmp 141) (x := .tmp 145) rfl Try.underlying23 infoI (by rfl) (by rfl) (m := nw - (i + 1)) (ys := ws.drop (i + 1)) (by rw [List.length_drop, HWS.out.1]) (rdc_drop HWS.out.1 HWS.out.2.1 (fun h => if_neg h) fun j y hj => H.out.drew.ir_cell (i := 10) rfl hj) (by have := HLB.out; have := HLB2.out; omega) ?_
                    intro A31 c31 w31_ H1
                    clear H
                    have H := Aside0.mk (show St w U w31_ [blk b #[.slice A0 (T.setL kk l).l.length c0, .int .i64 (T.setL kk l).added, .map (some gw), .slice A3 (T.setL kk l).is.length c3, .slice A4 (T.setL kk l).level.length c4, .slice A5 (T.setL kk l).why.length c5, .slice A6 (T.setL kk l).act.length c6, .slice A7 (T.setL kk l).last.length c7, .int .i64 (T.setL kk l).bump, .slice A9 (T.setL kk l).trail.length c9, .slice A10 (T.setL kk l).starts.length c10, .int .i64 (T.setL kk l).next, .int .i64 (T.setL kk l).vars, .bool (T.setL kk l).nothing] 50, ir A3 (T.setL kk l).is.length c3 (T.setL kk l).is, ir A4 (T.setL kk l).level.length c4 (T.setL kk l).level, ir A5 (T.setL kk l).why.length c5 (T.setL kk l).why, ir A6 (T.setL kk l).act.length c6 (T.setL kk l).act, ir A7 (T.setL kk l).last.length c7 (T.setL kk l).last, ir A9 (T.setL kk l).trail.length c9 (T.setL kk l).trail, ir A10 (T.setL kk l).starts.length c10 (T.setL kk l).starts, rr A0 (T.setL kk l).l.length c0 ((T.setL kk l).l.map .own), wm gw (bareE x (some ⟨gx, 0, none⟩) nw cx T.watch), ir (some ⟨gx, 0, none⟩) nw cx ws, ir A31 (left.length + 1 + (nw - (i + 1))) c31 (left ++ [(kk : Int)] ++ ws.drop (i + 1))] from H1)
                    clear H1
                    refine hK.out _ _ ((H.out.cell (i := 0) rfl)) (fun hHeld => ?_)
                    clear hK K
                    refine norm_ (a' := ?_) ?_ ?_
                    rotate_left
                    · show Act.put _ (some 146) _ = _
                      simp only [Act.put, List.setIfInBounds_toArray, List.set_cons_zero, List.set_cons_succ, i64_w, i32_w]
                      rfl
                    refine last_ (i := 11) (N := none) #[true, true, true, true, true, true, true, true, true, true, true, true] rfl rfl (by kernel_rfl) (by decide) (fun K hK => ?_)
                    refine st_upd (by rfl) rfl H.out (i := 9) rfl (om := .tmp 139) (ok := .tmp 140) (ox := .tmp 146) rfl Try.underlying48 Try.underlying3 x A31 (left.length + 1 + (nw - (i + 1))) c31 (by rfl) (by rfl) (by rfl) ?_
                    intro w32_ H1
                    clear H
                    have H := Aside0.mk (show St w U w32_ [blk b #[.slice A0 (T.setL kk l).l.length c0, .int .i64 (T.setL kk l).added, .map (some gw), .slice A3 (T.setL kk l).is.length c3, .slice A4 (T.setL kk l).level.length c4, .slice A5 (T.setL kk l).why.length c5, .slice A6 (T.setL kk l).act.length c6, .slice A7 (T.setL kk l).last.length c7, .int .i64 (T.setL kk l).bump, .slice A9 (T.setL kk l).trail.length c9, .slice A10 (T.setL kk l).starts.length c10, .int .i64 (T.setL kk l).next, .int .i64 (T.setL kk l).vars, .bool (T.setL kk l).nothing] 50, ir A3 (T.setL kk l).is.length c3 (T.setL kk l).is, ir A4 (T.setL kk l).level.length c4 (T.setL kk l).level, ir A5 (T.setL kk l).why.length c5 (T.setL kk l).why, ir A6 (T.setL kk l).act.length c6 (T.setL kk l).act, ir A7 (T.setL kk l).last.length c7 (T.setL kk l).last, ir A9 (T.setL kk l).trail.length c9 (T.setL kk l).trail, ir A10 (T.setL kk l).starts.length c10 (T.setL kk l).starts, rr A0 (T.setL kk l).l.length c0 ((T.setL kk l).l.map .own), wm gw (wset (bareE x (some ⟨gx, 0, none⟩) nw cx T.watch) x (.bare A31 (left.length + 1 + (nw - (i + 1))) c31)), ir (some ⟨gx, 0, none⟩) nw cx ws, ir A31 (left.length + 1 + (nw - (i + 1))) c31 (left ++ [(kk : Int)] ++ ws.drop (i + 1))] from H1)
                    clear H1
                    refine hK.out _ _ ?_
                    clear hK K
                    refine done_ (by kernel_rfl) ?_

                    go_wp2_with fail
                    all_goals
                      go_ret
                      exact ⟨[sol b _], ⟨rfl, rfl⟩, ((st_in HND.out ((st_shut (S := T.setL kk l) ⟨A0, c0, gw, A3, c3, A4, c4, A5, c5, A6, c6, A7, c7, A9, c9, A10, c10⟩ H.out).perm (perm_idx [0, 2, 1] (by rfl) rfl))).perm (perm_idx [1, 0] (by rfl) rfl)).drop⟩
                  · rw [if_neg ht2] at h
                    by_cases hmp : (T.setL kk l).mayPut y0
                    case neg => rw [if_neg hmp] at h; cases h
                    rw [if_pos hmp] at h
                    have HP := Aside0.mk (show -1000000000 ≤ y0 ∧ y0 ≤ 1000000000 ∧ y0.natAbs < T.is.length ∧ y0.natAbs < T.level.length ∧ y0.natAbs < T.why.length ∧ T.trail.length ≤ 1000000000 from ⟨by have := hmp.2.2.2.2; omega, by have := hmp.2.2.2.2; omega, hmp.1, hmp.2.1, hmp.2.2.1, hmp.2.2.2.1⟩)
                    have HR4 := Aside0.mk h
                    have d7 : (t == -1) = false := beq_eq_false_iff_ne.2 ht2
                    clear h ht2 hmp
                    go_wp2_with (first
                      | ((with_reducible refine gate_dst (N := 128) rfl ?_); refine ev_lit rfl H0.out (n := 1) (cs := #[.int .i64 (kk : Int)]) (t := 3) ?hr ?_; (case hr => first | (go_simp; done) | (go_simp; rfl)); intro gt w21_ H1; clear H0 zl; have H0 := Aside0.mk (show St w U w21_ [blk gt #[.int .i64 (kk : Int)] 3, solG b T ((T.l.map .own).set kk (.bare (some ⟨gl, 0, none⟩) nl dl)) (bareE x (some ⟨gx, 0, none⟩) nw cx T.watch), ir (some ⟨gl, 0, none⟩) nl dl l, ir (some ⟨gx, 0, none⟩) nw cx ws, ir Al (left.length) cl (left)] from H1); clear H1)
                      | ((with_reducible refine gate_builtin (b := .append) (xs := #[.tmp 126, .tmp 128]) rfl ?_); refine ev_append rfl H0.out (i := 4) rfl (s := .tmp 126) (x := .tmp 128) rfl Try.underlying23 infoI rfl rfl (m := 1) (ys := [(kk : Int)]) rfl (Rdc.blk1 (H0.out.blk (i := 0) rfl)) (by have := HLB.out; omega) ?_; intro Al2 cl2 w22_ H1; have H1 := H1.drop; clear H0; have H0 := Aside0.mk (show St w U w22_ [solG b T ((T.l.map .own).set kk (.bare (some ⟨gl, 0, none⟩) nl dl)) (bareE x (some ⟨gx, 0, none⟩) nw cx T.watch), ir (some ⟨gl, 0, none⟩) nl dl l, ir (some ⟨gx, 0, none⟩) nw cx ws, ir Al2 (left.length + 1) cl2 (left ++ [(kk : Int)])] from H1); clear H1; have zl := H0.out.ir_cell (i := 1) rfl HX1.out)
                      | (go_at_call 37; (with_reducible refine (q_truthM H0.out.sep HTR.out HNI.out).mono ?_); rintro e w' ⟨rfl, rfl⟩)
                      | (go_at_call 40; (refine (St.does (L1 := [solG b T ((T.l.map .own).set kk (.bare (some ⟨gl, 0, none⟩) nl dl)) (bareE x (some ⟨gx, 0, none⟩) nw cx T.watch)]) (L2 := [ir (some ⟨gl, 0, none⟩) nl dl l, ir (some ⟨gx, 0, none⟩) nw cx ws, ir Al2 (left.length + 1) cl2 (left ++ [(kk : Int)])]) H0.out (q_putG y0 (kk : Int) HP.out.1 HP.out.2.1 HP.out.2.2.1 HP.out.2.2.2.1 HP.out.2.2.2.2.1 HP.out.2.2.2.2.2)).mono ?_); rintro e w25_ ⟨L1', ⟨rfl, rfl⟩, H1⟩; clear H0 zl; have H0 := Aside0.mk (show St w U w25_ [solG b (T.put y0 (kk : Int)) ((T.l.map .own).set kk (.bare (some ⟨gl, 0, none⟩) nl dl)) (bareE x (some ⟨gx, 0, none⟩) nw cx T.watch), ir (some ⟨gl, 0, none⟩) nl dl l, ir (some ⟨gx, 0, none⟩) nw cx ws, ir Al2 (left.length + 1) cl2 (left ++ [(kk : Int)])] from H1); clear H1))
                    go_roundg k2'
                    case measure => have := HI2.out; have := HQ1.out; omega
                    case rel => exact ⟨i + 1, (T.put y0 (kk : Int)).setL kk l, left ++ [(kk : Int)], Al2, cl2, by go_num, by rw [List.length_append]; rfl, rfl, ⟨by have := HI2.out; omega⟩, ⟨by have := HI2.out; have := HQ1.out; omega⟩, HR4, ⟨bd_put (why := (kk : Int)) HBd.out HP.out.1 HP.out.2.1⟩, ⟨by rw [List.length_append]; exact look_give (S := T.put y0 (kk : Int)) HKK.out H0.out⟩⟩
                case pos =>
                  obtain ⟨y, hy⟩ : ∃ y, l[j]? = some y := ⟨_, List.getElem?_eq_getElem (by have := HLL.out; omega)⟩
                  have hd : l.drop j = y :: l.drop (j + 1) := by
                    rw [List.drop_eq_getElem_cons (by have := HLL.out; omega), (List.getElem?_eq_some_iff.1 hy).2]
                  rw [hd, Sol.find] at h
                  obtain ⟨ty, hty⟩ : ∃ ty, (T.setL kk l).truth y = some ty := by
                    match hq : (T.setL kk l).truth y with
                    | none => rw [hq] at h; cases h
                    | some z => exact ⟨z, rfl⟩
                  rw [hty] at h
                  dsimp only at h
                  have HTY := Aside0.mk (show T.truth y = some ty from hty)
                  have zl := H0.out.ir_cell (i := 1) rfl hy
                  have d5 : decide (j < nl) = true := decide_eq_true hj
                  have d6 : decide ((j : Int) < (nl : Int)) = true := decide_eq_true (by omega)
                  have q1 : ((j : Int) < (nl : Int)) = True := eq_true (by omega)
                  have q2 : (j < nl) = True := eq_true hj
                  have q3 : (0 ≤ (j : Int)) = True := eq_true (by omega)
                  have hj64 : (j : Int) ≤ 9223372036854775806 := by have := HNL.out; omega
                  by_cases hm : ty = -1
                  · rw [if_pos hm] at h
                    have HF2 := Aside0.mk h
                    have HJ3 := Aside0.mk hj
                    have d7 : (ty == -1) = true := beq_iff_eq.2 hm
                    have d8 : (ty != -1) = false := by rw [bne, d7]; rfl
                    clear h hty hd hy hj hm
                    go_wp2_with (first
                      | (go_at_call 37; (with_reducible refine (q_truthM H0.out.sep HTY.out HNI.out).mono ?_); rintro e w' ⟨rfl, rfl⟩))
                    go_roundg k3
                    case measure => have := HJ3.out; have := HQ2.out; omega
                    case rel => exact ⟨j + 1, by go_num, ⟨by have := HJ2.out; omega⟩, ⟨HJ3.out⟩, ⟨by have := HJ3.out; have := HQ2.out; omega⟩, HF2, H0⟩
                  · rw [if_neg hm] at h
                    obtain rfl := Option.some.inj h
                    have h := HR3.out
                    dsimp only at h
                    have d7 : (ty == -1) = false := beq_eq_false_iff_ne.2 hm
                    have d8 : (ty != -1) = true := by rw [bne, d7]; rfl
                    obtain ⟨cc, hcc⟩ : ∃ cc, l[1]? = some cc := ⟨_, List.getElem?_eq_getElem (by have := HLL.out; have := HNL.out; omega)⟩
                    have hj2 : 2 ≤ j := HJ2.out
                    obtain ⟨l2, hl2⟩ : ∃ l2, l2 = swp l 1 j := ⟨_, rfl⟩
                    rw [← hl2] at h
                    have hg1 : l.getD 1 0 = cc := by rw [List.getD_eq_getElem?_getD, hcc]; rfl
                    have hgj : l.getD j 0 = y := by rw [List.getD_eq_getElem?_getD, hy]; rfl
                    have hle : l2 = (l.set 1 y).set j cc := by rw [hl2]; unfold swp; rw [hg1, hgj]
                    have h21 : l2[1]? = some y := by rw [hle, List.getElem?_set_ne (by omega), List.getElem?_set_self (by have := (List.getElem?_eq_some_iff.1 hcc).1; omega)]
                    have hg2 : l2.getD 1 0 = y := by rw [List.getD_eq_getElem?_getD, h21]; rfl
                    rw [hg2] at h
                    by_cases hb : y = x ∨ 1000000000 < (wget (T.setL kk l).watch y).length
                    · rw [if_pos hb] at h; cases h
                    rw [if_neg hb] at h
                    have HYX := Aside0.mk (show y ≠ x from fun e => hb (.inl e))
                    have HWY := Aside0.mk (show (wget T.watch y).length ≤ 1000000000 from Nat.le_of_not_lt fun e => hb (.inr e))
                    have hss : (T.setL kk l).setL kk l2 = T.setL kk l2 := by unfold Sol.setL; dsimp only; rw [List.set_set]
                    rw [hss] at h
                    have HR4 := Aside0.mk h
                    have HJ3 := Aside0.mk (show 2 ≤ j ∧ j < nl from ⟨hj2, hj⟩)
                    have HCC := Aside0.mk hcc
                    have HYY := Aside0.mk hy
                    have HLE := Aside0.mk hle
                    have H21 := Aside0.mk h21
                    clear h hty hd hy hj hm hcc hj2 hl2 hg1 hgj hle h21 hg2 hb hss
                    go_wp2_with (first
                      | (go_at_call 37; (with_reducible refine (q_truthM H0.out.sep HTY.out HNI.out).mono ?_); rintro e w' ⟨rfl, rfl⟩))
                    have zc := H0.out.ir_cell (i := 1) rfl HCC.out
                    have fl := H0.out.ir_frz (i := 1) rfl
                    have q4 : ((1 : Int) < (nl : Int)) = True := eq_true (by have := HNL.out; omega)
                    have q5 : (1 < nl) = True := eq_true (by have := HNL.out; omega)
                    have q6 : ((0 : Int) < (nl : Int)) = True := eq_true (by have := HNL.out; omega)
                    refine start_ (n := 14) (S := fun w' => w' = wr.drew) (ds := [11, 13]) #[false, false, false, false, false, false, false, false, false, false, false, false, false, false] (by kernel_rfl) rfl rfl (rfl) (fun hHeld => ?_)
                    refine pure_ (i := 0) (N := some 96) (v := ?_) (a' := ?_) #[true, false, false, false, false, false, false, false, false, false, false, false, false, false] rfl rfl (by kernel_rfl) (fun _ _ _ h => h) (Or.inl ⟨by rfl, ?_⟩) ?_ ?_
                    rotate_left
                    · intro w'
                      go_simp
                      with_reducible rfl
                    rotate_left
                    · simp only [Act.put, List.setIfInBounds_toArray, List.set_cons_zero, List.set_cons_succ, i64_w, i32_w]
                      rfl
                    refine pure_ (i := 1) (N := some 97) (v := ?_) (a' := ?_) #[true, true, false, false, false, false, false, false, false, false, false, false, false, false] rfl rfl (by kernel_rfl) (fun _ _ _ h => h) (Or.inl ⟨by rfl, ?_⟩) ?_ ?_
                    rotate_left
                    · intro w'
                      go_simp
                      with_reducible rfl
                    rotate_left
                    · simp only [Act.put, List.setIfInBounds_toArray, List.set_cons_zero, List.set_cons_succ, i64_w, i32_w]
                      rfl
                    refine pure_ (i := 2) (N := some 98) (v := ?_) (a' := ?_) #[true, true, true, false, false, false, false, false, false, false, false, false, false, false] rfl rfl (by kernel_rfl) (fun _ _ _ h => h) (Or.inl ⟨by rfl, ?_⟩) ?_ ?_
                    rotate_left
                    · intro w'
                      go_simp
                      with_reducible rfl
                    rotate_left
                    · simp only [Act.put, List.setIfInBounds_toArray, List.set_cons_zero, List.set_cons_succ, i64_w, i32_w]
                      rfl
                    refine pure_ (i := 3) (N := some 99) (v := ?_) (a' := ?_) #[true, true, true, true, false, false, false, false, false, false, false, false, false, false] rfl rfl (by kernel_rfl) (fun _ _ _ h => h) (Or.inl ⟨by rfl, ?_⟩) ?_ ?_
                    rotate_left
                    · intro w'
                      go_simp
                      with_reducible rfl
                    rotate_left
                    · simp only [Act.put, List.setIfInBounds_toArray, List.set_cons_zero, List.set_cons_succ, i64_w, i32_w]
                      rfl
                    refine pure_ (i := 4) (N := some 100) (v := ?_) (a' := ?_) #[true, true, true, true, true, false, false, false, false, false, false, false, false, false] rfl rfl (by kernel_rfl) (fun _ _ _ h => h) (Or.inl ⟨by rfl, ?_⟩) ?_ ?_
                    rotate_left
                    · intro w'
                      go_simp
                      with_reducible rfl
                    rotate_left
                    · simp only [Act.put, List.setIfInBounds_toArray, List.set_cons_zero, List.set_cons_succ, i64_w, i32_w]
                      rfl
                    refine pure_ (i := 5) (N := some 101) (v := ?_) (a' := ?_) #[true, true, true, true, true, true, false, false, false, false, false, false, false, false] rfl rfl (by kernel_rfl) (fun _ _ _ h => h) (Or.inl ⟨by rfl, ?_⟩) ?_ ?_
                    rotate_left
                    · intro w'
                      go_simp
                      with_reducible rfl
                    rotate_left
                    · simp only [Act.put, List.setIfInBounds_toArray, List.set_cons_zero, List.set_cons_succ, i64_w, i32_w]
                      rfl
                    refine pure_ (i := 7) (N := some 103) (v := ?_) (a' := ?_) #[true, true, true, true, true, true, false, true, false, false, false, false, false, false] rfl rfl (by kernel_rfl) (fun _ _ _ h => h) (Or.inl ⟨by rfl, ?_⟩) ?_ ?_
                    rotate_left
                    · intro w'
                      go_simp
                      with_reducible rfl
                    rotate_left
                    · simp only [Act.put, List.setIfInBounds_toArray, List.set_cons_zero, List.set_cons_succ, i64_w, i32_w]
                      rfl
                    refine pure_ (i := 8) (N := some 104) (v := ?_) (a' := ?_) #[true, true, true, true, true, true, false, true, true, false, false, false, false, false] rfl rfl (by kernel_rfl) (fun _ _ _ h => h) (Or.inl ⟨by rfl, ?_⟩) ?_ ?_
                    rotate_left
                    · intro w'
                      go_simp
                      with_reducible rfl
                    rotate_left
                    · simp only [Act.put, List.setIfInBounds_toArray, List.set_cons_zero, List.set_cons_succ, i64_w, i32_w]
                      rfl
                    refine take_ (i := 6) (N := some 102) (v := ?_) (a' := ?_) #[true, true, true, true, true, true, true, true, true, false, false, false, false, false] rfl rfl (by kernel_rfl) (fun _ _ _ h => h) (Or.inl ⟨by rfl, ?_⟩) hHeld ?_ ?_
                    rotate_left
                    · intro w' s0
                      go_simp
                      with_reducible rfl
                    rotate_left
                    · simp only [Act.put, List.setIfInBounds_toArray, List.set_cons_zero, List.set_cons_succ, i64_w, i32_w]
                      rfl
                    refine take_ (i := 9) (N := some 105) (v := ?_) (a' := ?_) #[true, true, true, true, true, true, true, true, true, true, false, false, false, false] rfl rfl (by kernel_rfl) (fun _ _ _ h => h) (Or.inl ⟨by rfl, ?_⟩) hHeld ?_ ?_
                    rotate_left
                    · intro w' s0
                      go_simp
                      with_reducible rfl
                    rotate_left
                    · simp only [Act.put, List.setIfInBounds_toArray, List.set_cons_zero, List.set_cons_succ, i64_w, i32_w]
                      rfl
                    refine pure_ (i := 10) (N := some 106) (v := ?_) (a' := ?_) #[true, true, true, true, true, true, true, true, true, true, true, false, false, false] rfl rfl (by kernel_rfl) (fun _ _ _ h => h) (Or.inl ⟨by rfl, ?_⟩) ?_ ?_
                    rotate_left
                    · intro w'
                      go_simp
                      with_reducible rfl
                    rotate_left
                    · simp only [Act.put, List.setIfInBounds_toArray, List.set_cons_zero, List.set_cons_succ, i64_w, i32_w]
                      rfl
                    refine last_ (i := 11) (N := none) #[true, true, true, true, true, true, true, true, true, true, true, true, false, false] rfl rfl (by kernel_rfl) (by decide) (fun K hK => ?_)
                    refine st_set (by rfl) rfl H0.out.drew (i := 1) rfl 1 y (by have := HJ3.out; omega) ?hr ?_
                    (case hr => first | (go_simp; done) | (go_simp; rfl))
                    intro w27_ H1
                    clear H0 fl zl zc
                    have H0 := Aside0.mk (show St w U w27_ [solG b T ((T.l.map .own).set kk (.bare (some ⟨gl, 0, none⟩) nl dl)) (bareE x (some ⟨gx, 0, none⟩) nw cx T.watch), ir (some ⟨gl, 0, none⟩) nl dl (l.set 1 y), ir (some ⟨gx, 0, none⟩) nw cx ws, ir Al (left.length) cl (left)] from H1)
                    clear H1
                    have fl := H0.out.ir_frz (i := 1) rfl
                    have zl := H0.out.ir_cell (i := 1) rfl (show (l.set 1 y)[j]? = some y by rw [List.getElem?_set_ne (by have := HJ3.out; omega)]; exact HYY.out)
                    refine hK.out _ _ ?_
                    clear hK K
                    refine pure_ (i := 12) (N := some 107) (v := ?_) (a' := ?_) #[true, true, true, true, true, true, true, true, true, true, true, true, true, false] rfl rfl (by kernel_rfl) (fun _ _ _ h => h) (Or.inl ⟨by rfl, ?_⟩) ?_ ?_
                    rotate_left
                    · intro w'
                      go_simp
                      with_reducible rfl
                    rotate_left
                    · simp only [Act.put, List.setIfInBounds_toArray, List.set_cons_zero, List.set_cons_succ, i64_w, i32_w]
                      rfl
                    refine last_ (i := 13) (N := none) #[true, true, true, true, true, true, true, true, true, true, true, true, true, true] rfl rfl (by kernel_rfl) (by decide) (fun K hK => ?_)
                    refine st_set (by rfl) rfl H0.out (i := 1) rfl j cc (by have := HJ3.out; omega) ?hr2 ?_
                    (case hr2 => first | (go_simp; done) | (go_simp; rfl))
                    intro wv H1
                    clear H0 fl zl
                    have H0 := Aside0.mk (show St w U wv [solG b T ((T.l.map .own).set kk (.bare (some ⟨gl, 0, none⟩) nl dl)) (bareE x (some ⟨gx, 0, none⟩) nw cx T.watch), ir (some ⟨gl, 0, none⟩) nl dl ((l.set 1 y).set j cc), ir (some ⟨gx, 0, none⟩) nw cx ws, ir Al (left.length) cl (left)] from H1)
                    clear H1
                    refine hK.out _ _ ?_
                    clear hK K
                    refine done_ (by kernel_rfl) ?_

                    go_wp2_with fail
                    rw [← HLE.out] at H0
                    have h3 := H0.out
                    clear H0 d5 d6 d7 d8
                    obtain ⟨M, A, kw, dw, h4, h5, h6⟩ := st_prepB (y := y) HYX.out h3
                    have hkw := h4.ir_len (i := 1) rfl
                    have HKW := Aside0.mk (show kw ≤ 1000000000 by have := HWY.out; omega)
                    have HG := Aside0.mk h6
                    have HLK := Aside0.mk (look_at (P := Try.prog) (w0 := w) (U := U) h5 Try.underlying48 Try.underlying3 zeroS)
                    obtain ⟨r, h7⟩ := st_open h4
                    obtain ⟨A0, c0, gw, A3, c3, A4, c4, A5, c5, A6, c6, A7, c7, A9, c9, A10, c10⟩ := r
                    have H := Aside0.mk (show St w U wv [blk b #[.slice A0 T.l.length c0, .int .i64 T.added, .map (some gw), .slice A3 T.is.length c3, .slice A4 T.level.length c4, .slice A5 T.why.length c5, .slice A6 T.act.length c6, .slice A7 T.last.length c7, .int .i64 T.bump, .slice A9 T.trail.length c9, .slice A10 T.starts.length c10, .int .i64 T.next, .int .i64 T.vars, .bool T.nothing] 50, ir A3 T.is.length c3 T.is, ir A4 T.level.length c4 T.level, ir A5 T.why.length c5 T.why, ir A6 T.act.length c6 T.act, ir A7 T.last.length c7 T.last, ir A9 T.trail.length c9 T.trail, ir A10 T.starts.length c10 T.starts, rr A0 T.l.length c0 ((T.l.map .own).set kk (.bare (some ⟨gl, 0, none⟩) nl dl)), wm gw M, ir A kw dw (wget T.watch y), ir (some ⟨gl, 0, none⟩) nl dl l2, ir (some ⟨gx, 0, none⟩) nw cx ws, ir Al left.length cl left] from h7)
                    clear h3 h4 h5 h6 h7 hkw
                    refine start_ (n := 19) (S := fun w' => (∀ j : Nat, w'.cell? ⟨b, j, none⟩ = (#[.slice A0 T.l.length c0, .int .i64 T.added, .map (some gw), .slice A3 T.is.length c3, .slice A4 T.level.length c4, .slice A5 T.why.length c5, .slice A6 T.act.length c6, .slice A7 T.last.length c7, .int .i64 T.bump, .slice A9 T.trail.length c9, .slice A10 T.starts.length c10, .int .i64 T.next, .int .i64 T.vars, .bool T.nothing] : Array Value)[j]?) ∧ (Instr.lookup 48 (.map (some gw)) (.int .i64 y) false).run Try.prog w' = .ok (.slice A kw dw) w' ∧ w'.cell? ⟨gl, 1, none⟩ = some (.int .i64 y)) (ds := [18]) #[false, false, false, false, false, false, false, false, false, false, false, false, false, false, false, false, false, false, false] (by kernel_rfl) rfl rfl ⟨(H.out.drew.cell (i := 0) rfl), (HLK.out _ _ 9 _ H.out.drew rfl), (H.out.drew.ir_cell (i := 11) rfl H21.out)⟩ (fun hHeld => ?_)
                    refine pure_ (i := 0) (N := some 108) (v := ?_) (a' := ?_) #[true, false, false, false, false, false, false, false, false, false, false, false, false, false, false, false, false, false, false] rfl rfl (by kernel_rfl) (fun _ _ _ h => h) (Or.inl ⟨by rfl, ?_⟩) ?_ ?_
                    rotate_left
                    · intro w'
                      go_simp
                      with_reducible rfl
                    rotate_left
                    · simp only [Act.put, List.setIfInBounds_toArray, List.set_cons_zero, List.set_cons_succ, i64_w, i32_w]
                      rfl
                    refine pure_ (i := 1) (N := some 109) (v := ?_) (a' := ?_) #[true, true, false, false, false, false, false, false, false, false, false, false, false, false, false, false, false, false, false] rfl rfl (by kernel_rfl) (fun _ _ _ h => h) (Or.inl ⟨by rfl, ?_⟩) ?_ ?_
                    rotate_left
                    · intro w'
                      go_simp
                      with_reducible rfl
                    rotate_left
                    · simp only [Act.put, List.setIfInBounds_toArray, List.set_cons_zero, List.set_cons_succ, i64_w, i32_w]
                      rfl
                    refine pure_ (i := 2) (N := some 110) (v := ?_) (a' := ?_) #[true, true, true, false, false, false, false, false, false, false, false, false, false, false, false, false, false, false, false] rfl rfl (by kernel_rfl) (fun _ _ _ h => h) (Or.inl ⟨by rfl, ?_⟩) ?_ ?_
                    rotate_left
                    · intro w'
                      go_simp
                      with_reducible rfl
                    rotate_left
                    · simp only [Act.put, List.setIfInBounds_toArray, List.set_cons_zero, List.set_cons_succ, i64_w, i32_w]
                      rfl
                    refine pure_ (i := 4) (N := some 112) (v := ?_) (a' := ?_) #[true, true, true, false, true, false, false, false, false, false, false, false, false, false, false, false, false, false, false] rfl rfl (by kernel_rfl) (fun _ _ _ h => h) (Or.inl ⟨by rfl, ?_⟩) ?_ ?_
                    rotate_left
                    · intro w'
                      go_simp
                      with_reducible rfl
                    rotate_left
                    · simp only [Act.put, List.setIfInBounds_toArray, List.set_cons_zero, List.set_cons_succ, i64_w, i32_w]
                      rfl
                    refine pure_ (i := 5) (N := some 113) (v := ?_) (a' := ?_) #[true, true, true, false, true, true, false, false, false, false, false, false, false, false, false, false, false, false, false] rfl rfl (by kernel_rfl) (fun _ _ _ h => h) (Or.inl ⟨by rfl, ?_⟩) ?_ ?_
                    rotate_left
                    · intro w'
                      go_simp
                      with_reducible rfl
                    rotate_left
                    · simp only [Act.put, List.setIfInBounds_toArray, List.set_cons_zero, List.set_cons_succ, i64_w, i32_w]
                      rfl
                    refine pure_ (i := 7) (N := some 115) (v := ?_) (a' := ?_) #[true, true, true, false, true, true, false, true, false, false, false, false, false, false, false, false, false, false, false] rfl rfl (by kernel_rfl) (fun _ _ _ h => h) (Or.inl ⟨by rfl, ?_⟩) ?_ ?_
                    rotate_left
                    · intro w'
                      go_simp
                      with_reducible rfl
                    rotate_left
                    · simp only [Act.put, List.setIfInBounds_toArray, List.set_cons_zero, List.set_cons_succ, i64_w, i32_w]
                      rfl
                    refine pure_ (i := 8) (N := some 116) (v := ?_) (a' := ?_) #[true, true, true, false, true, true, false, true, true, false, false, false, false, false, false, false, false, false, false] rfl rfl (by kernel_rfl) (fun _ _ _ h => h) (Or.inl ⟨by rfl, ?_⟩) ?_ ?_
                    rotate_left
                    · intro w'
                      go_simp
                      with_reducible rfl
                    rotate_left
                    · simp only [Act.put, List.setIfInBounds_toArray, List.set_cons_zero, List.set_cons_succ, i64_w, i32_w]
                      rfl
                    refine pure_ (i := 9) (N := some 117) (v := ?_) (a' := ?_) #[true, true, true, false, true, true, false, true, true, true, false, false, false, false, false, false, false, false, false] rfl rfl (by kernel_rfl) (fun _ _ _ h => h) (Or.inl ⟨by rfl, ?_⟩) ?_ ?_
                    rotate_left
                    · intro w'
                      go_simp
                      with_reducible rfl
                    rotate_left
                    · simp only [Act.put, List.setIfInBounds_toArray, List.set_cons_zero, List.set_cons_succ, i64_w, i32_w]
                      rfl
                    refine pure_ (i := 11) (N := some 119) (v := ?_) (a' := ?_) #[true, true, true, false, true, true, false, true, true, true, false, true, false, false, false, false, false, false, false] rfl rfl (by kernel_rfl) (fun _ _ _ h => h) (Or.inl ⟨by rfl, ?_⟩) ?_ ?_
                    rotate_left
                    · intro w'
                      go_simp
                      with_reducible rfl
                    rotate_left
                    · simp only [Act.put, List.setIfInBounds_toArray, List.set_cons_zero, List.set_cons_succ, i64_w, i32_w]
                      rfl
                    refine pure_ (i := 12) (N := some 120) (v := ?_) (a' := ?_) #[true, true, true, false, true, true, false, true, true, true, false, true, true, false, false, false, false, false, false] rfl rfl (by kernel_rfl) (fun _ _ _ h => h) (Or.inl ⟨by rfl, ?_⟩) ?_ ?_
                    rotate_left
                    · intro w'
                      go_simp
                      with_reducible rfl
                    rotate_left
                    · simp only [Act.put, List.setIfInBounds_toArray, List.set_cons_zero, List.set_cons_succ, i64_w, i32_w]
                      rfl
                    refine pure_ (i := 15) (N := some 123) (v := ?_) (a' := ?_) #[true, true, true, false, true, true, false, true, true, true, false, true, true, false, false, true, false, false, false] rfl rfl (by kernel_rfl) (fun _ _ _ h => h) (Or.inl ⟨by rfl, ?_⟩) ?_ ?_
                    rotate_left
                    · intro w'
                      go_simp
                      with_reducible rfl
                    rotate_left
                    · simp only [Act.put, List.setIfInBounds_toArray, List.set_cons_zero, List.set_cons_succ, i64_w, i32_w]
                      rfl
                    refine take_ (i := 3) (N := some 111) (v := ?_) (a' := ?_) #[true, true, true, true, true, true, false, true, true, true, false, true, true, false, false, true, false, false, false] rfl rfl (by kernel_rfl) (fun _ _ _ h => h) (Or.inl ⟨by rfl, ?_⟩) hHeld ?_ ?_
                    rotate_left
                    · rintro w' ⟨s0, s1, s2⟩
                      go_simp
                      with_reducible rfl
                    rotate_left
                    · simp only [Act.put, List.setIfInBounds_toArray, List.set_cons_zero, List.set_cons_succ, i64_w, i32_w]
                      rfl
                    refine take_ (i := 6) (N := some 114) (v := ?_) (a' := ?_) #[true, true, true, true, true, true, true, true, true, true, false, true, true, false, false, true, false, false, false] rfl rfl (by kernel_rfl) (fun _ _ _ h => h) (Or.inl ⟨by rfl, ?_⟩) hHeld ?_ ?_
                    rotate_left
                    · rintro w' ⟨s0, s1, s2⟩
                      go_simp
                      with_reducible rfl
                    rotate_left
                    · simp only [Act.put, List.setIfInBounds_toArray, List.set_cons_zero, List.set_cons_succ, i64_w, i32_w]
                      rfl
                    refine take_ (i := 10) (N := some 118) (v := ?_) (a' := ?_) #[true, true, true, true, true, true, true, true, true, true, true, true, true, false, false, true, false, false, false] rfl rfl (by kernel_rfl) (fun _ _ _ h => h) (Or.inl ⟨by rfl, ?_⟩) hHeld ?_ ?_
                    rotate_left
                    · rintro w' ⟨s0, s1, s2⟩
                      go_simp
                      with_reducible rfl
                    rotate_left
                    · simp only [Act.put, List.setIfInBounds_toArray, List.set_cons_zero, List.set_cons_succ, i64_w, i32_w]
                      rfl
                    refine take_ (i := 13) (N := some 121) (v := ?_) (a' := ?_) #[true, true, true, true, true, true, true, true, true, true, true, true, true, true, false, true, false, false, false] rfl rfl (by kernel_rfl) (fun _ _ _ h => h) (Or.inl ⟨by rfl, ?_⟩) hHeld ?_ ?_
                    rotate_left
                    · rintro w' ⟨s0, s1, s2⟩
                      go_simp
                      with_reducible rfl
                    rotate_left
                    · simp only [Act.put, List.setIfInBounds_toArray, List.set_cons_zero, List.set_cons_succ, i64_w, i32_w]
                      rfl
                    refine take_ (i := 14) (N := some 122) (v := ?_) (a' := ?_) #[true, true, true, true, true, true, true, true, true, true, true, true, true, true, true, true, false, false, false] rfl rfl (by kernel_rfl) (fun _ _ _ h => h) (Or.inl ⟨by rfl, ?_⟩) hHeld ?_ ?_
                    rotate_left
                    · rintro w' ⟨s0, s1, s2⟩
                      go_simp
                      with_reducible rfl
                    rotate_left
                    · simp only [Act.put, List.setIfInBounds_toArray, List.set_cons_zero, List.set_cons_succ, i64_w, i32_w]
                      rfl
                    refine one_ (i := 16) (N := some 124) #[true, true, true, true, true, true, true, true, true, true, true, true, true, true, true, true, true, false, false] rfl rfl (by kernel_rfl) (by decide) (fun K hK => ?_)
                    refine st_lit (by rfl) rfl H.out.drew (n := 1) (cs := #[.int .i64 (kk : Int)]) (t := 3) ?hr ?_
                    (case hr => first | (go_simp; done) | (go_simp; rfl))
                    intro gt w28_ H1
                    clear H
                    have H := Aside0.mk (show St w U w28_ [blk gt #[.int .i64 (kk : Int)] 3, blk b #[.slice A0 T.l.length c0, .int .i64 T.added, .map (some gw), .slice A3 T.is.length c3, .slice A4 T.level.length c4, .slice A5 T.why.length c5, .slice A6 T.act.length c6, .slice A7 T.last.length c7, .int .i64 T.bump, .slice A9 T.trail.length c9, .slice A10 T.starts.length c10, .int .i64 T.next, .int .i64 T.vars, .bool T.nothing] 50, ir A3 T.is.length c3 T.is, ir A4 T.level.length c4 T.level, ir A5 T.why.length c5 T.why, ir A6 T.act.length c6 T.act, ir A7 T.last.length c7 T.last, ir A9 T.trail.length c9 T.trail, ir A10 T.starts.length c10 T.starts, rr A0 T.l.length c0 ((T.l.map .own).set kk (.bare (some ⟨gl, 0, none⟩) nl dl)), wm gw M, ir A kw dw (wget T.watch y), ir (some ⟨gl, 0, none⟩) nl dl l2, ir (some ⟨gx, 0, none⟩) nw cx ws, ir Al left.length cl left] from H1)
                    clear H1
                    refine hK.out _ _ ⟨(H.out.cell (i := 1) rfl), (HLK.out _ _ 10 _ H.out rfl), (H.out.ir_cell (i := 12) rfl H21.out)⟩ (fun hHeld => ?_)
                    clear hK K
                    refine norm_ (a' := ?_) ?_ ?_
                    rotate_left
                    · show Act.put _ (some 124) _ = _
                      simp only [Act.put, List.setIfInBounds_toArray, List.set_cons_zero, List.set_cons_succ, i64_w, i32_w]
                      rfl
                    refine one_ (i := 17) (N := some 125) #[true, true, true, true, true, true, true, true, true, true, true, true, true, true, true, true, true, true, false] rfl rfl (by kernel_rfl) (by decide) (fun K hK => ?_)
                    refine st_append (by rfl) rfl H.out (i := 11) rfl (s := .tmp 122) (x := .tmp 124) rfl Try.underlying23 infoI (by rfl) (by rfl) (m := 1) (ys := [(kk : Int)]) rfl (Rdc.blk1 (H.out.blk (i := 0) rfl)) (by have := HKW.out; omega) ?_
                    intro B' d' w29_ H1
                    clear H
                    have H1 := H1.drop
                    have H := Aside0.mk (show St w U w29_ [blk b #[.slice A0 T.l.length c0, .int .i64 T.added, .map (some gw), .slice A3 T.is.length c3, .slice A4 T.level.length c4, .slice A5 T.why.length c5, .slice A6 T.act.length c6, .slice A7 T.last.length c7, .int .i64 T.bump, .slice A9 T.trail.length c9, .slice A10 T.starts.length c10, .int .i64 T.next, .int .i64 T.vars, .bool T.nothing] 50, ir A3 T.is.length c3 T.is, ir A4 T.level.length c4 T.level, ir A5 T.why.length c5 T.why, ir A6 T.act.length c6 T.act, ir A7 T.last.length c7 T.last, ir A9 T.trail.length c9 T.trail, ir A10 T.starts.length c10 T.starts, rr A0 T.l.length c0 ((T.l.map .own).set kk (.bare (some ⟨gl, 0, none⟩) nl dl)), wm gw M, ir B' (kw + 1) d' (wget T.watch y ++ [(kk : Int)]), ir (some ⟨gl, 0, none⟩) nl dl l2, ir (some ⟨gx, 0, none⟩) nw cx ws, ir Al left.length cl left] from H1)
                    clear H1
                    refine hK.out _ _ ⟨(H.out.cell (i := 0) rfl), (HLK.out _ _ 9 _ H.out rfl), (H.out.ir_cell (i := 11) rfl H21.out)⟩ (fun hHeld => ?_)
                    clear hK K
                    refine norm_ (a' := ?_) ?_ ?_
                    rotate_left
                    · show Act.put _ (some 125) _ = _
                      simp only [Act.put, List.setIfInBounds_toArray, List.set_cons_zero, List.set_cons_succ, i64_w, i32_w]
                      rfl
                    refine last_ (i := 18) (N := none) #[true, true, true, true, true, true, true, true, true, true, true, true, true, true, true, true, true, true, true] rfl rfl (by kernel_rfl) (by decide) (fun K hK => ?_)
                    refine st_upd (by rfl) rfl H.out (i := 9) rfl (om := .tmp 111) (ok := .tmp 114) (ox := .tmp 125) rfl Try.underlying48 Try.underlying3 y B' (kw + 1) d' (by rfl) (by rfl) (by rfl) ?_
                    intro w30_ H1
                    clear H
                    have H := Aside0.mk (show St w U w30_ [blk b #[.slice A0 T.l.length c0, .int .i64 T.added, .map (some gw), .slice A3 T.is.length c3, .slice A4 T.level.length c4, .slice A5 T.why.length c5, .slice A6 T.act.length c6, .slice A7 T.last.length c7, .int .i64 T.bump, .slice A9 T.trail.length c9, .slice A10 T.starts.length c10, .int .i64 T.next, .int .i64 T.vars, .bool T.nothing] 50, ir A3 T.is.length c3 T.is, ir A4 T.level.length c4 T.level, ir A5 T.why.length c5 T.why, ir A6 T.act.length c6 T.act, ir A7 T.last.length c7 T.last, ir A9 T.trail.length c9 T.trail, ir A10 T.starts.length c10 T.starts, rr A0 T.l.length c0 ((T.l.map .own).set kk (.bare (some ⟨gl, 0, none⟩) nl dl)), wm gw (wset M y (.bare B' (kw + 1) d')), ir B' (kw + 1) d' (wget T.watch y ++ [(kk : Int)]), ir (some ⟨gl, 0, none⟩) nl dl l2, ir (some ⟨gx, 0, none⟩) nw cx ws, ir Al left.length cl left] from H1)
                    clear H1
                    refine hK.out _ _ ?_
                    clear hK K
                    refine done_ (by kernel_rfl) ?_

                    go_wp2_with fail
                    go_roundg k2'
                    case measure => have := HI2.out; have := HQ1.out; omega
                    case rel => exact ⟨i + 1, (T.setL kk l2).wset y (wget T.watch y ++ [(kk : Int)]), left, Al, cl, by go_num, rfl, rfl, ⟨by have := HI2.out; omega⟩, ⟨by have := HI2.out; have := HQ1.out; omega⟩, HR4, HBd, ⟨look_give (S := T.wset y (wget T.watch y ++ [(kk : Int)])) HKK.out (HG.out _ _ (T.wset y (wget T.watch y ++ [(kk : Int)])) _ _ _ _ _ (st_shut (S := T) ⟨A0, c0, gw, A3, c3, A4, c4, A5, c5, A6, c6, A7, c7, A9, c9, A10, c10⟩ H.out))⟩⟩

end Go.Proofs.Ytckimhhncpnkpaa.H
/- literal, New; the searches by a closure. -/
namespace Go.Proofs.Ytckimhhncpnkpaa.H
set_option linter.unusedSimpArgs false
set_option linter.unusedVariables false
open Go.RowKit Go.Proofs.YtckimhhncpnkpaaW.PrintWords Go.Proofs.YtckimhhncpnkpaaW.PrintLast Go.Proofs.YtckimhhncpnkpaaW.PrintMore Go.Proofs.Ytckimhhncpnkpaa.Sep Go.Proofs.Ytckimhhncpnkpaa.Sat
def idxP (p : Int → Bool) : List Int → Int → Int
  | [], _ => -1
  | x :: r, k => if p x = true then k else idxP p r (k + 1)
theorem idxP_step (p : Int → Bool) (l : List Int) (i : Nat) (x : Int) (h : l[i]? = some x) : idxP p (l.drop i) (i : Int) = if p x = true then (i : Int) else idxP p (l.drop (i + 1)) ((i + 1 : Nat) : Int) := by
  have hlt := (List.getElem?_eq_some_iff.1 h).1
  rw [List.drop_eq_getElem_cons hlt, (List.getElem?_eq_some_iff.1 h).2]
  rfl
theorem idxP_any (p : Int → Bool) : ∀ (l : List Int) (k : Int), 0 ≤ k → decide (0 ≤ idxP p l k) = l.any p
  | [], k, hk => rfl
  | x :: r, k, hk => by
    rw [List.any_cons]
    by_cases h : p x = true
    · rw [show idxP p (x :: r) k = k from if_pos h, h, decide_eq_true hk]; rfl
    · rw [show idxP p (x :: r) k = idxP p r (k + 1) from if_neg h, idxP_any p r (k + 1) (by omega), Bool.eq_false_iff.2 h]; rfl
/-- A row of whole numbers, read. -/
def Rd (w : World) (A : Option Addr) (l : List Int) : Prop := ∀ (j : Nat) (x : Int), l[j]? = some x → ∃ ad, A = some ad ∧ w.cell? (ad.add j) = some (.int .i64 x)
theorem Rd.below {w w' : World} {A : Option Addr} {l : List Int} (h : Rd w A l) (hb : Below w.heap.size w w') : Rd w' A l := fun j x hx => by
  obtain ⟨g, e, hc⟩ := h j x hx
  exact ⟨g, e, (hb.cell (World.block_lt_of_cell? w _ hc)).trans hc⟩
/-- .. of a block's own. -/
def RdB (w : World) (A : Option Addr) (l : List Int) : Prop := ∀ (j : Nat) (x : Int), l[j]? = some x → ∃ g, A = some ⟨g, 0, none⟩ ∧ w.cell? ⟨g, j, none⟩ = some (.int .i64 x)
theorem RdB.rd {w : World} {A : Option Addr} {l : List Int} (h : RdB w A l) : Rd w A l := fun j x hx => by
  obtain ⟨g, e, hc⟩ := h j x hx
  exact ⟨_, e, by rw [add_plain]; exact hc⟩
theorem _root_.Go.Proofs.Ytckimhhncpnkpaa.Sep.St.rdb {w0 w : World} {U : Nat → Prop} {L : List Ch} {i : Nat} {A : Option Addr} {n c : Nat} {xs : List Int} (h : St w0 U w L) (hi : L[i]? = some (ir A n c xs)) : RdB w A xs := fun j x hx => by
  have h1 := (List.getElem?_eq_some_iff.1 hx).1
  have h2 := h.ir_len hi
  obtain ⟨g, rfl⟩ := h.ir_some hi (by omega)
  exact ⟨g, rfl, h.ir_cell hi hx⟩
theorem _root_.Go.Proofs.Ytckimhhncpnkpaa.Sep.St.rd {w0 w : World} {U : Nat → Prop} {L : List Ch} {i : Nat} {A : Option Addr} {n c : Nat} {xs : List Int} (h : St w0 U w L) (hi : L[i]? = some (ir A n c xs)) : Rd w A xs := (h.rdb hi).rd
/-- A chunk that lets a row be read. -/
def Lets (C : Ch) (A : Option Addr) (l : List Int) : Prop := ∀ (w : World) (fp : Nat → Prop), C.sat w fp → Rd w A l
theorem Lets.ir {A : Option Addr} {n c : Nat} {xs : List Int} : Lets (Sep.ir A n c xs) A xs := fun w fp h => by
  have hs : Sep.Sep w [Sep.ir A n c xs] (fun k => fp k) := ⟨fp, h, fun _ hk => hk, trivial⟩
  have hst : St w (fun _ => True) w [Sep.ir A n c xs] := ⟨Keeps.refl _ _, hs.mono (fun _ _ => trivial), fun _ _ => trivial⟩
  exact hst.rd (i := 0) rfl
theorem _root_.Go.Proofs.Ytckimhhncpnkpaa.Sep.St.lets {w0 w : World} {U : Nat → Prop} {L : List Ch} {i : Nat} {C : Ch} {A : Option Addr} {l : List Int} (h : St w0 U w L) (hi : L[i]? = some C) (hC : Lets C A l) : Rd w A l := by
  obtain ⟨fp, h1, _⟩ := h.sat hi
  exact hC w fp h1
/-- The memory that was there. -/
def old (w0 : World) : Ch where
  sat w fp := (∀ k, k < w0.heap.size → w.heap[k]? = w0.heap[k]?) ∧ w0.heap.size ≤ w.heap.size ∧ ∀ k, fp k ↔ k < w0.heap.size
  keep := by
    rintro w w' fp ⟨h1, h2, h3⟩ hk
    refine ⟨fun k hl => (hk k ((h3 k).2 hl)).trans (h1 k hl), ?_, h3⟩
    by_cases h0 : w0.heap.size = 0
    · omega
    · have := (hk (w0.heap.size - 1) ((h3 _).2 (by omega))).trans (h1 _ (by omega))
      have h9 := this.trans (Array.getElem?_eq_getElem (show w0.heap.size - 1 < w0.heap.size by omega))
      have := (Array.getElem?_eq_some_iff.1 h9).1
      omega
  live h k hk := by have := (h.2.2 k).1 hk; have := h.2.1; omega
theorem old_cell {w0 w : World} {fp : Nat → Prop} (h : (old w0).sat w fp) {a : Addr} {v : Value} (hc : w0.cell? a = some v) : w.cell? a = some v := by
  have hb := World.block_lt_of_cell? w0 _ hc
  rw [← hc]
  unfold World.cell?
  rw [h.1 _ hb]
theorem Lets.old {w0 : World} {A : Option Addr} {l : List Int} (h : Rd w0 A l) : Lets (old w0) A l := fun w fp hs j x hx => by
  obtain ⟨ad, e, hc⟩ := h j x hx
  exact ⟨ad, e, old_cell hs hc⟩
theorem old_start (w : World) : St w (fun _ => True) w [old w] := ⟨Keeps.refl _ _, ⟨fun k => k < w.heap.size, ⟨fun _ _ => rfl, Nat.le_refl _, fun _ => Iff.rfl⟩, fun _ _ => trivial, trivial⟩, fun _ _ => trivial⟩
theorem _root_.Go.Proofs.Ytckimhhncpnkpaa.Sep.St.oldBelow {w w' : World} {U : Nat → Prop} {L : List Ch} {i : Nat} (h : St w U w' L) (hi : L[i]? = some (old w)) : Below w.heap.size w w' := by
  obtain ⟨fp, h1, _⟩ := h.sat hi
  exact ⟨h.keeps.os, h.keeps.tape, h.keeps.output, h.keeps.size, fun k hk => h1.1 k hk⟩
set_option maxHeartbeats 1000000 in
theorem q_literal (x : Int) (w : World) : Calls Try.prog 25 #[.int .i64 x] w fun e w' => e = .returned (.bool (isLit x)) ∧ w = w' := by
  by_cases h0 : x = 0
  · subst h0
    rw [show isLit 0 = false by decide]
    go_enter Try.func25, Try.ntmps25
    go_wp2
    go_ret
    exact ⟨rfl, rfl⟩
  have d0 : (x == 0) = false := beq_eq_false_iff_ne.2 h0
  have e0 : (x != 0) = true := by rw [bne, d0]; rfl
  by_cases h1 : x ≤ 200000
  all_goals by_cases h2 : -200000 ≤ x
  all_goals first
    | rw [show isLit x = true by unfold isLit; exact decide_eq_true ⟨h0, h1, h2⟩]
    | rw [show isLit x = false by unfold isLit; exact decide_eq_false (fun h => by omega)]
  all_goals
    go_enter Try.func25, Try.ntmps25
    go_wp2
    go_ret
    exact ⟨rfl, rfl⟩
set_option maxHeartbeats 1000000 in
theorem q_rLiteral (x : Int) (w : World) : Calls Try.prog 22 #[.int .i64 x] w fun e w' => e = .returned (.bool (isLit x)) ∧ w = w' := by
  by_cases h0 : x = 0
  · subst h0
    rw [show isLit 0 = false by decide]
    go_enter Try.func22, Try.ntmps22
    go_wp2
    go_ret
    exact ⟨rfl, rfl⟩
  have d0 : (x == 0) = false := beq_eq_false_iff_ne.2 h0
  have e0 : (x != 0) = true := by rw [bne, d0]; rfl
  by_cases h1 : x ≤ 200000
  all_goals by_cases h2 : -200000 ≤ x
  all_goals first
    | rw [show isLit x = true by unfold isLit; exact decide_eq_true ⟨h0, h1, h2⟩]
    | rw [show isLit x = false by unfold isLit; exact decide_eq_false (fun h => by omega)]
  all_goals
    go_enter Try.func22, Try.ntmps22
    go_wp2
    go_ret
    exact ⟨rfl, rfl⟩
set_option maxHeartbeats 1000000 in
theorem q_Solve1 (x : Int) (w : World) : Calls Try.prog 24 #[.int .i64 x] w fun e w' => e = .returned (.bool (!isLit x)) ∧ w = w' := by
  go_enter Try.func24, Try.ntmps24
  go_wp2_with (go_at_call 25; (with_reducible refine (q_literal x _).mono ?_); rintro e w' ⟨rfl, rfl⟩)
  go_ret
  exact ⟨rfl, rfl⟩
set_option maxHeartbeats 1000000 in
theorem q_Add1 (x : Int) (w : World) : Calls Try.prog 31 #[.int .i64 x] w fun e w' => e = .returned (.bool (!isLit x)) ∧ w = w' := by
  go_enter Try.func31, Try.ntmps31
  go_wp2_with (go_at_call 25; (with_reducible refine (q_literal x _).mono ?_); rintro e w' ⟨rfl, rfl⟩)
  go_ret
  exact ⟨rfl, rfl⟩
set_option maxHeartbeats 4000000 in
set_option maxRecDepth 100000 in
theorem ix_Solve1 (p : Int → Bool) (A0 : Option Addr) (c0 : Nat) (l : List Int) (w : World) (hr : Rd w A0 l) (hl : l.length ≤ 1000000000)
    (hcl : ∀ x ∈ l, ∀ W, Below w.heap.size w W → Calls Try.prog 24 #[.int .i64 x] W fun e w' => e = .returned (.bool (p x)) ∧ Below W.heap.size W w') :
    Calls Try.prog 42 #[.slice A0 l.length c0, .func (.func 24) #[] #[]] w fun e w' => e = .returned (.int .i64 (idxP p l 0)) ∧ Below w.heap.size w w' := by
  have HR := Aside0.mk hr
  have HL := Aside0.mk hl
  have HCL := Aside0.mk hcl
  clear hr hl hcl
  go_enter Try.func42, Try.ntmps42
  go_wp2
  go_loopw [8] (fun v8 wr => ∃ i : Nat, v8 = .int .i64 (i : Int) ∧ Aside0 (i ≤ l.length) ∧ Aside0 (idxP p (l.drop i) (i : Int) = idxP p l 0) ∧ Aside0 (Below w.heap.size w wr)) (fun v8 _ => l.length - (RowKit.intOf v8).toNat)
  case atStart => exact ⟨0, rfl, ⟨Nat.zero_le _⟩, ⟨rfl⟩, ⟨Below.refl _ _⟩⟩
  case round =>
    obtain ⟨i, rfl, HI, HE, HB⟩ := hrel
    by_cases hlt : i < l.length
    · have hL := HL.out
      have hw : wrap64 ((i : Int) + 1) = ((i + 1 : Nat) : Int) := by unfold wrap64; omega
      have HW := Aside0.mk hw
      clear hw
      obtain ⟨x, hx⟩ : ∃ x, l[i]? = some x := ⟨_, List.getElem?_eq_getElem hlt⟩
      obtain ⟨ad, e, hx0⟩ := (HR.out.below HB.out) i x hx
      subst e
      have hst := idxP_step p l i x hx
      rw [HE.out] at hst
      have HXM := Aside0.mk (List.mem_of_getElem? hx)
      have c1' : decide ((i : Int) < (l.length : Int)) = true := decide_eq_true (by omega)
      have c2' : decide (i < l.length) = true := decide_eq_true hlt
      have p1 : (0 ≤ (i : Int)) = True := eq_true (by omega)
      have q1 : ((i : Int) < (l.length : Int)) = True := eq_true (by omega)
      by_cases hv : p x = true
      · rw [if_pos hv] at hst
        have HST := Aside0.mk hst
        have HPX := Aside0.mk hv
        clear hst hv hx
        go_wp2_with (go_at_call 24; (with_reducible refine (HCL.out x HXM.out _ HB.out).mono ?_); rw [HPX.out]; rintro e w1 ⟨rfl, hb1⟩; have HB1 := Aside0.mk (below_step HB.out hb1); clear hb1)
        go_ret
        exact ⟨by first | (rw [HST.out]; done) | (rw [HST.out]; rfl), by repeat first | exact HB1.out | apply below_drew1⟩
      · rw [if_neg hv] at hst
        have HST := Aside0.mk hst
        have HPX := Aside0.mk (Bool.eq_false_iff.2 hv)
        clear hst hv hx
        go_wp2_with (go_at_call 24; (with_reducible refine (HCL.out x HXM.out _ HB.out).mono ?_); rw [HPX.out]; rintro e w1 ⟨rfl, hb1⟩; have HB1 := Aside0.mk (below_step HB.out hb1); clear hb1)
        go_roundw
        case rel => exact ⟨i + 1, by go_num, ⟨by omega⟩, ⟨HST.out.symm⟩, ⟨by repeat first | exact HB1.out | apply below_drew1⟩⟩
        case measure => simp [RowKit.intOf, HW.out]; omega
    · have hi := HI.out
      have he : i = l.length := by omega
      subst he
      have hE : idxP p l 0 = -1 := by rw [← HE.out, List.drop_eq_nil_of_le (Nat.le_refl _)]; rfl
      have HE2 := Aside0.mk hE
      have c1' : decide ((l.length : Int) < (l.length : Int)) = false := decide_eq_false (by omega)
      have c2' : decide (l.length < l.length) = false := decide_eq_false (by omega)
      clear hE hlt
      go_wp2
      go_ret
      exact ⟨by rw [HE2.out]; rfl, HB.out⟩
set_option maxHeartbeats 4000000 in
theorem cf_Solve1 (p : Int → Bool) (A0 : Option Addr) (c0 : Nat) (l : List Int) (w : World) (hr : Rd w A0 l) (hl : l.length ≤ 1000000000)
    (hcl : ∀ x ∈ l, ∀ W, Below w.heap.size w W → Calls Try.prog 24 #[.int .i64 x] W fun e w' => e = .returned (.bool (p x)) ∧ Below W.heap.size W w') :
    Calls Try.prog 23 #[.slice A0 l.length c0, .func (.func 24) #[] #[]] w fun e w' => e = .returned (.bool (l.any p)) ∧ Below w.heap.size w w' := by
  have HIX := Aside0.mk (ix_Solve1 p A0 c0 l w hr hl hcl)
  clear hr hl hcl
  rw [← idxP_any p l 0 (Int.le_refl _)]
  go_enter Try.func23, Try.ntmps23
  go_wp2_with (go_at_call 42; (with_reducible refine HIX.out.mono ?_); rintro e w1 ⟨rfl, hb1⟩)
  go_ret
  exact ⟨rfl, by repeat first | exact hb1 | apply below_drew1⟩
set_option maxHeartbeats 4000000 in
set_option maxRecDepth 100000 in
theorem ix_Add1 (p : Int → Bool) (A0 : Option Addr) (c0 : Nat) (l : List Int) (w : World) (hr : Rd w A0 l) (hl : l.length ≤ 1000000000)
    (hcl : ∀ x ∈ l, ∀ W, Below w.heap.size w W → Calls Try.prog 31 #[.int .i64 x] W fun e w' => e = .returned (.bool (p x)) ∧ Below W.heap.size W w') :
    Calls Try.prog 42 #[.slice A0 l.length c0, .func (.func 31) #[] #[]] w fun e w' => e = .returned (.int .i64 (idxP p l 0)) ∧ Below w.heap.size w w' := by
  have HR := Aside0.mk hr
  have HL := Aside0.mk hl
  have HCL := Aside0.mk hcl
  clear hr hl hcl
  go_enter Try.func42, Try.ntmps42
  go_wp2
  go_loopw [8] (fun v8 wr => ∃ i : Nat, v8 = .int .i64 (i : Int) ∧ Aside0 (i ≤ l.length) ∧ Aside0 (idxP p (l.drop i) (i : Int) = idxP p l 0) ∧ Aside0 (Below w.heap.size w wr)) (fun v8 _ => l.length - (RowKit.intOf v8).toNat)
  case atStart => exact ⟨0, rfl, ⟨Nat.zero_le _⟩, ⟨rfl⟩, ⟨Below.refl _ _⟩⟩
  case round =>
    obtain ⟨i, rfl, HI, HE, HB⟩ := hrel
    by_cases hlt : i < l.length
    · have hL := HL.out
      have hw : wrap64 ((i : Int) + 1) = ((i + 1 : Nat) : Int) := by unfold wrap64; omega
      have HW := Aside0.mk hw
      clear hw
      obtain ⟨x, hx⟩ : ∃ x, l[i]? = some x := ⟨_, List.getElem?_eq_getElem hlt⟩
      obtain ⟨ad, e, hx0⟩ := (HR.out.below HB.out) i x hx
      subst e
      have hst := idxP_step p l i x hx
      rw [HE.out] at hst
      have HXM := Aside0.mk (List.mem_of_getElem? hx)
      have c1' : decide ((i : Int) < (l.length : Int)) = true := decide_eq_true (by omega)
      have c2' : decide (i < l.length) = true := decide_eq_true hlt
      have p1 : (0 ≤ (i : Int)) = True := eq_true (by omega)
      have q1 : ((i : Int) < (l.length : Int)) = True := eq_true (by omega)
      by_cases hv : p x = true
      · rw [if_pos hv] at hst
        have HST := Aside0.mk hst
        have HPX := Aside0.mk hv
        clear hst hv hx
        go_wp2_with (go_at_call 31; (with_reducible refine (HCL.out x HXM.out _ HB.out).mono ?_); rw [HPX.out]; rintro e w1 ⟨rfl, hb1⟩; have HB1 := Aside0.mk (below_step HB.out hb1); clear hb1)
        go_ret
        exact ⟨by first | (rw [HST.out]; done) | (rw [HST.out]; rfl), by repeat first | exact HB1.out | apply below_drew1⟩
      · rw [if_neg hv] at hst
        have HST := Aside0.mk hst
        have HPX := Aside0.mk (Bool.eq_false_iff.2 hv)
        clear hst hv hx
        go_wp2_with (go_at_call 31; (with_reducible refine (HCL.out x HXM.out _ HB.out).mono ?_); rw [HPX.out]; rintro e w1 ⟨rfl, hb1⟩; have HB1 := Aside0.mk (below_step HB.out hb1); clear hb1)
        go_roundw
        case rel => exact ⟨i + 1, by go_num, ⟨by omega⟩, ⟨HST.out.symm⟩, ⟨by repeat first | exact HB1.out | apply below_drew1⟩⟩
        case measure => simp [RowKit.intOf, HW.out]; omega
    · have hi := HI.out
      have he : i = l.length := by omega
      subst he
      have hE : idxP p l 0 = -1 := by rw [← HE.out, List.drop_eq_nil_of_le (Nat.le_refl _)]; rfl
      have HE2 := Aside0.mk hE
      have c1' : decide ((l.length : Int) < (l.length : Int)) = false := decide_eq_false (by omega)
      have c2' : decide (l.length < l.length) = false := decide_eq_false (by omega)
      clear hE hlt
      go_wp2
      go_ret
      exact ⟨by rw [HE2.out]; rfl, HB.out⟩
set_option maxHeartbeats 4000000 in
theorem cf_Add1 (p : Int → Bool) (A0 : Option Addr) (c0 : Nat) (l : List Int) (w : World) (hr : Rd w A0 l) (hl : l.length ≤ 1000000000)
    (hcl : ∀ x ∈ l, ∀ W, Below w.heap.size w W → Calls Try.prog 31 #[.int .i64 x] W fun e w' => e = .returned (.bool (p x)) ∧ Below W.heap.size W w') :
    Calls Try.prog 23 #[.slice A0 l.length c0, .func (.func 31) #[] #[]] w fun e w' => e = .returned (.bool (l.any p)) ∧ Below w.heap.size w w' := by
  have HIX := Aside0.mk (ix_Add1 p A0 c0 l w hr hl hcl)
  clear hr hl hcl
  rw [← idxP_any p l 0 (Int.le_refl _)]
  go_enter Try.func23, Try.ntmps23
  go_wp2_with (go_at_call 42; (with_reducible refine HIX.out.mono ?_); rintro e w1 ⟨rfl, hb1⟩)
  go_ret
  exact ⟨rfl, by repeat first | exact hb1 | apply below_drew1⟩
set_option maxHeartbeats 4000000 in
set_option maxRecDepth 100000 in
theorem ix_Add2 (g1 g2 : Nat) (p : Int → Bool) (A0 : Option Addr) (c0 : Nat) (l : List Int) (w : World) (hr : Rd w A0 l) (hl : l.length ≤ 1000000000)
    (hcl : ∀ x ∈ l, ∀ W, Below w.heap.size w W → Calls Try.prog 35 #[.int .i64 x, .pointer (some ⟨g1, 0, none⟩), .pointer (some ⟨g2, 0, none⟩)] W fun e w' => e = .returned (.bool (p x)) ∧ Below W.heap.size W w') :
    Calls Try.prog 42 #[.slice A0 l.length c0, .func (.func 35) #[] #[.pointer (some ⟨g1, 0, none⟩), .pointer (some ⟨g2, 0, none⟩)]] w fun e w' => e = .returned (.int .i64 (idxP p l 0)) ∧ Below w.heap.size w w' := by
  have HR := Aside0.mk hr
  have HL := Aside0.mk hl
  have HCL := Aside0.mk hcl
  clear hr hl hcl
  go_enter Try.func42, Try.ntmps42
  go_wp2
  go_loopw [8] (fun v8 wr => ∃ i : Nat, v8 = .int .i64 (i : Int) ∧ Aside0 (i ≤ l.length) ∧ Aside0 (idxP p (l.drop i) (i : Int) = idxP p l 0) ∧ Aside0 (Below w.heap.size w wr)) (fun v8 _ => l.length - (RowKit.intOf v8).toNat)
  case atStart => exact ⟨0, rfl, ⟨Nat.zero_le _⟩, ⟨rfl⟩, ⟨Below.refl _ _⟩⟩
  case round =>
    obtain ⟨i, rfl, HI, HE, HB⟩ := hrel
    by_cases hlt : i < l.length
    · have hL := HL.out
      have hw : wrap64 ((i : Int) + 1) = ((i + 1 : Nat) : Int) := by unfold wrap64; omega
      have HW := Aside0.mk hw
      clear hw
      obtain ⟨x, hx⟩ : ∃ x, l[i]? = some x := ⟨_, List.getElem?_eq_getElem hlt⟩
      obtain ⟨ad, e, hx0⟩ := (HR.out.below HB.out) i x hx
      subst e
      have hst := idxP_step p l i x hx
      rw [HE.out] at hst
      have HXM := Aside0.mk (List.mem_of_getElem? hx)
      have c1' : decide ((i : Int) < (l.length : Int)) = true := decide_eq_true (by omega)
      have c2' : decide (i < l.length) = true := decide_eq_true hlt
      have p1 : (0 ≤ (i : Int)) = True := eq_true (by omega)
      have q1 : ((i : Int) < (l.length : Int)) = True := eq_true (by omega)
      by_cases hv : p x = true
      · rw [if_pos hv] at hst
        have HST := Aside0.mk hst
        have HPX := Aside0.mk hv
        clear hst hv hx
        go_wp2_with (go_at_call 35; (with_reducible refine (HCL.out x HXM.out _ HB.out).mono ?_); rw [HPX.out]; rintro e w1 ⟨rfl, hb1⟩; have HB1 := Aside0.mk (below_step HB.out hb1); clear hb1)
        go_ret
        exact ⟨by first | (rw [HST.out]; done) | (rw [HST.out]; rfl), by repeat first | exact HB1.out | apply below_drew1⟩
      · rw [if_neg hv] at hst
        have HST := Aside0.mk hst
        have HPX := Aside0.mk (Bool.eq_false_iff.2 hv)
        clear hst hv hx
        go_wp2_with (go_at_call 35; (with_reducible refine (HCL.out x HXM.out _ HB.out).mono ?_); rw [HPX.out]; rintro e w1 ⟨rfl, hb1⟩; have HB1 := Aside0.mk (below_step HB.out hb1); clear hb1)
        go_roundw
        case rel => exact ⟨i + 1, by go_num, ⟨by omega⟩, ⟨HST.out.symm⟩, ⟨by repeat first | exact HB1.out | apply below_drew1⟩⟩
        case measure => simp [RowKit.intOf, HW.out]; omega
    · have hi := HI.out
      have he : i = l.length := by omega
      subst he
      have hE : idxP p l 0 = -1 := by rw [← HE.out, List.drop_eq_nil_of_le (Nat.le_refl _)]; rfl
      have HE2 := Aside0.mk hE
      have c1' : decide ((l.length : Int) < (l.length : Int)) = false := decide_eq_false (by omega)
      have c2' : decide (l.length < l.length) = false := decide_eq_false (by omega)
      clear hE hlt
      go_wp2
      go_ret
      exact ⟨by rw [HE2.out]; rfl, HB.out⟩
set_option maxHeartbeats 4000000 in
theorem cf_Add2 (g1 g2 : Nat) (p : Int → Bool) (A0 : Option Addr) (c0 : Nat) (l : List Int) (w : World) (hr : Rd w A0 l) (hl : l.length ≤ 1000000000)
    (hcl : ∀ x ∈ l, ∀ W, Below w.heap.size w W → Calls Try.prog 35 #[.int .i64 x, .pointer (some ⟨g1, 0, none⟩), .pointer (some ⟨g2, 0, none⟩)] W fun e w' => e = .returned (.bool (p x)) ∧ Below W.heap.size W w') :
    Calls Try.prog 23 #[.slice A0 l.length c0, .func (.func 35) #[] #[.pointer (some ⟨g1, 0, none⟩), .pointer (some ⟨g2, 0, none⟩)]] w fun e w' => e = .returned (.bool (l.any p)) ∧ Below w.heap.size w w' := by
  have HIX := Aside0.mk (ix_Add2 g1 g2 p A0 c0 l w hr hl hcl)
  clear hr hl hcl
  rw [← idxP_any p l 0 (Int.le_refl _)]
  go_enter Try.func23, Try.ntmps23
  go_wp2_with (go_at_call 42; (with_reducible refine HIX.out.mono ?_); rintro e w1 ⟨rfl, hb1⟩)
  go_ret
  exact ⟨rfl, by repeat first | exact hb1 | apply below_drew1⟩
set_option maxHeartbeats 4000000 in
set_option maxRecDepth 100000 in
theorem ix_Add3 (g2 : Nat) (p : Int → Bool) (A0 : Option Addr) (c0 : Nat) (l : List Int) (w : World) (hr : Rd w A0 l) (hl : l.length ≤ 1000000000)
    (hcl : ∀ x ∈ l, ∀ W, Below w.heap.size w W → Calls Try.prog 39 #[.int .i64 x, .pointer (some ⟨g2, 0, none⟩)] W fun e w' => e = .returned (.bool (p x)) ∧ Below W.heap.size W w') :
    Calls Try.prog 42 #[.slice A0 l.length c0, .func (.func 39) #[] #[.pointer (some ⟨g2, 0, none⟩)]] w fun e w' => e = .returned (.int .i64 (idxP p l 0)) ∧ Below w.heap.size w w' := by
  have HR := Aside0.mk hr
  have HL := Aside0.mk hl
  have HCL := Aside0.mk hcl
  clear hr hl hcl
  go_enter Try.func42, Try.ntmps42
  go_wp2
  go_loopw [8] (fun v8 wr => ∃ i : Nat, v8 = .int .i64 (i : Int) ∧ Aside0 (i ≤ l.length) ∧ Aside0 (idxP p (l.drop i) (i : Int) = idxP p l 0) ∧ Aside0 (Below w.heap.size w wr)) (fun v8 _ => l.length - (RowKit.intOf v8).toNat)
  case atStart => exact ⟨0, rfl, ⟨Nat.zero_le _⟩, ⟨rfl⟩, ⟨Below.refl _ _⟩⟩
  case round =>
    obtain ⟨i, rfl, HI, HE, HB⟩ := hrel
    by_cases hlt : i < l.length
    · have hL := HL.out
      have hw : wrap64 ((i : Int) + 1) = ((i + 1 : Nat) : Int) := by unfold wrap64; omega
      have HW := Aside0.mk hw
      clear hw
      obtain ⟨x, hx⟩ : ∃ x, l[i]? = some x := ⟨_, List.getElem?_eq_getElem hlt⟩
      obtain ⟨ad, e, hx0⟩ := (HR.out.below HB.out) i x hx
      subst e
      have hst := idxP_step p l i x hx
      rw [HE.out] at hst
      have HXM := Aside0.mk (List.mem_of_getElem? hx)
      have c1' : decide ((i : Int) < (l.length : Int)) = true := decide_eq_true (by omega)
      have c2' : decide (i < l.length) = true := decide_eq_true hlt
      have p1 : (0 ≤ (i : Int)) = True := eq_true (by omega)
      have q1 : ((i : Int) < (l.length : Int)) = True := eq_true (by omega)
      by_cases hv : p x = true
      · rw [if_pos hv] at hst
        have HST := Aside0.mk hst
        have HPX := Aside0.mk hv
        clear hst hv hx
        go_wp2_with (go_at_call 39; (with_reducible refine (HCL.out x HXM.out _ HB.out).mono ?_); rw [HPX.out]; rintro e w1 ⟨rfl, hb1⟩; have HB1 := Aside0.mk (below_step HB.out hb1); clear hb1)
        go_ret
        exact ⟨by first | (rw [HST.out]; done) | (rw [HST.out]; rfl), by repeat first | exact HB1.out | apply below_drew1⟩
      · rw [if_neg hv] at hst
        have HST := Aside0.mk hst
        have HPX := Aside0.mk (Bool.eq_false_iff.2 hv)
        clear hst hv hx
        go_wp2_with (go_at_call 39; (with_reducible refine (HCL.out x HXM.out _ HB.out).mono ?_); rw [HPX.out]; rintro e w1 ⟨rfl, hb1⟩; have HB1 := Aside0.mk (below_step HB.out hb1); clear hb1)
        go_roundw
        case rel => exact ⟨i + 1, by go_num, ⟨by omega⟩, ⟨HST.out.symm⟩, ⟨by repeat first | exact HB1.out | apply below_drew1⟩⟩
        case measure => simp [RowKit.intOf, HW.out]; omega
    · have hi := HI.out
      have he : i = l.length := by omega
      subst he
      have hE : idxP p l 0 = -1 := by rw [← HE.out, List.drop_eq_nil_of_le (Nat.le_refl _)]; rfl
      have HE2 := Aside0.mk hE
      have c1' : decide ((l.length : Int) < (l.length : Int)) = false := decide_eq_false (by omega)
      have c2' : decide (l.length < l.length) = false := decide_eq_false (by omega)
      clear hE hlt
      go_wp2
      go_ret
      exact ⟨by rw [HE2.out]; rfl, HB.out⟩
/-- A new solver. -/
def Sol.new : Sol := ⟨[], 0, [], [], [], [], [], [], 1, [], [], 0, 0, false⟩
theorem rr_nil {w : World} {L : List Ch} {U : Nat → Prop} (h : Sep w L U) : Sep w (rr none 0 0 [] :: L) U :=
  shut_ex [] (shut_star (shut_fact rfl (⟨fun _ => False, ⟨World.ownsRow_nil w 0 23 1, fun k => ⟨False.elim, fun e => by simp [Value.ownBlock] at e⟩⟩, fun _ hk => hk.elim, h.mono (fun _ hk => ⟨hk, id⟩)⟩)))
theorem wm_nil {w : World} {L : List Ch} {U : Nat → Prop} {g : Nat} (h : Sep w (ms g [] :: L) U) : Sep w (wm g [] :: L) U :=
  shut_ex [] (shut_star (shut_fact ⟨rfl, List.nodup_nil⟩ h))
set_option maxHeartbeats 1000000 in
set_option maxRecDepth 100000 in
theorem q_New (w : World) : Does Try.prog 21 #[] w [] fun e L => ∃ b, e = .returned (.pointer (some ⟨b, 0, none⟩)) ∧ L = [sol b Sol.new] := by
  refine does_intro fun U hs => ?_
  have H := Aside0.mk hs
  clear hs
  go_enter Try.func21, Try.ntmps21
  go_wp2_with (first
    | ((with_reducible refine gate_dst (N := 1) rfl ?_); refine ev_mkms rfl H.out rfl ?_; intro gw w1_ H1; clear H; have H := Aside0.mk (show St w U w1_ [ms gw []] from H1); clear H1)
    | ((with_reducible refine gate_dst (N := 3) rfl ?_); refine ev_box rfl H.out (cs := #[.slice none 0 0, .int .i64 0, .map (some gw), .slice none 0 0, .slice none 0 0, .slice none 0 0, .slice none 0 0, .slice none 0 0, .int .i64 1, .slice none 0 0, .slice none 0 0, .int .i64 0, .int .i64 0, .bool false]) (t := 50) ?hr ?_; (case hr => first | (go_simp; done) | (go_simp; rfl)); intro b w2_ H1; clear H))
  go_ret
  refine ⟨[sol b Sol.new], ⟨b, rfl, rfl⟩, H1.imp fun V h => ?_⟩
  refine sol_shut (S := Sol.new) ⟨none, 0, gw, none, 0, none, 0, none, 0, none, 0, none, 0, none, 0, none, 0⟩ ?_
  have h2 := rr_nil (ir_nil (ir_nil (ir_nil (ir_nil (ir_nil (ir_nil (ir_nil (wm_nil h.swap))))))))
  exact Sep.perm (perm_idx [9, 1, 2, 3, 4, 5, 6, 7, 0, 8] (by rfl) rfl) V h2
end Go.Proofs.Ytckimhhncpnkpaa.H
