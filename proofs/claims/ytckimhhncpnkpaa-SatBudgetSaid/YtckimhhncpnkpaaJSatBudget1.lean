/- Joined by wip/tools/shake.py for the claim of SatBudget: SepA. -/
import Derived.Below
import Derived.Tactics
import Derived.Laws.AppendOwn
/- Memory in parts: chunks that lie apart, and what a call may touch. -/
namespace Go.Proofs.Ytckimhhncpnkpaa.Sep
set_option linter.unusedVariables false
open Go Go.RowKit
/-- What may be touched: the blocks of U, and new ones. -/
structure Keeps (U : Nat → Prop) (w w' : World) : Prop where
  os : w'.os = w.os
  tape : w'.tape = w.tape
  output : w'.output = w.output
  size : w.heap.size ≤ w'.heap.size
  block : ∀ k, k < w.heap.size → ¬ U k → w'.heap[k]? = w.heap[k]?
theorem Keeps.refl (U : Nat → Prop) (w : World) : Keeps U w w := ⟨rfl, rfl, rfl, Nat.le_refl _, fun _ _ _ => rfl⟩
theorem Keeps.trans {U : Nat → Prop} {a b c : World} (h : Keeps U a b) (k : Keeps U b c) : Keeps U a c :=
  ⟨k.os.trans h.os, k.tape.trans h.tape, k.output.trans h.output, Nat.le_trans h.size k.size, fun i hi hu => (k.block i (Nat.lt_of_lt_of_le hi h.size) hu).trans (h.block i hi hu)⟩
theorem Keeps.trans' {U V : Nat → Prop} {a b c : World} (h : Keeps U a b) (k : Keeps V b c) (hv : ∀ i, V i → U i ∨ a.heap.size ≤ i) : Keeps U a c :=
  ⟨k.os.trans h.os, k.tape.trans h.tape, k.output.trans h.output, Nat.le_trans h.size k.size, fun i hi hu => (k.block i (Nat.lt_of_lt_of_le hi h.size) (fun x => (hv i x).elim hu (fun z => by omega))).trans (h.block i hi hu)⟩
theorem Keeps.mono {U V : Nat → Prop} {w w' : World} (h : Keeps U w w') (hv : ∀ i, U i → V i) : Keeps V w w' := ⟨h.os, h.tape, h.output, h.size, fun i hi hu => h.block i hi (fun x => hu (hv i x))⟩
theorem Keeps.of_below (U : Nat → Prop) {w w' : World} (h : Below w.heap.size w w') : Keeps U w w' := ⟨h.os, h.tape, h.output, h.size, fun i hi _ => h.block i hi⟩
theorem Keeps.below {w w' : World} (h : Keeps (fun k => w.heap.size ≤ k) w w') : Below w.heap.size w w' := ⟨h.os, h.tape, h.output, h.size, fun i hi => h.block i hi (by omega)⟩
theorem Keeps.drew (U : Nat → Prop) (w : World) : Keeps U w w.drew := ⟨rfl, rfl, rfl, Nat.le_refl _, fun _ _ _ => rfl⟩
theorem Keeps.of_grown {w w' : World} {row : Option Nat} (h : w.grownBy w' row) : Keeps (fun k => row = some k) w w' := ⟨h.os, h.tape, h.output, h.size, fun i hi hu => h.block i hi (fun e => hu e.symm)⟩
/-- A chunk: what it says of a world, of the blocks fp. -/
structure Ch where
  sat : World → (Nat → Prop) → Prop
  keep : ∀ {w w' : World} {fp : Nat → Prop}, sat w fp → (∀ k, fp k → w'.heap[k]? = w.heap[k]?) → sat w' fp
  live : ∀ {w : World} {fp : Nat → Prop}, sat w fp → ∀ k, fp k → k < w.heap.size
/-- Chunks that lie apart, within U. -/
def Sep (w : World) : List Ch → (Nat → Prop) → Prop
  | [], _ => True
  | A :: L, U => ∃ fp : Nat → Prop, A.sat w fp ∧ (∀ k, fp k → U k) ∧ Sep w L (fun k => U k ∧ ¬ fp k)
theorem Sep.mono {w : World} : ∀ {L : List Ch} {U V : Nat → Prop}, Sep w L U → (∀ k, U k → V k) → Sep w L V
  | [], _, _, _, _ => trivial
  | _ :: _, _, _, ⟨fp, h1, h2, h3⟩, h => ⟨fp, h1, fun k hk => h k (h2 k hk), h3.mono (fun k hk => ⟨h k hk.1, hk.2⟩)⟩
theorem Sep.keep {w w' : World} : ∀ {L : List Ch} {U : Nat → Prop}, Sep w L U → (∀ k, U k → k < w.heap.size → w'.heap[k]? = w.heap[k]?) → Sep w' L U
  | [], _, _, _ => trivial
  | A :: _, _, ⟨fp, h1, h2, h3⟩, h => ⟨fp, A.keep h1 (fun k hk => h k (h2 k hk) (A.live h1 k hk)), h2, h3.keep (fun k hk => h k hk.1)⟩
theorem Sep.alive {w : World} : ∀ {L : List Ch} {U : Nat → Prop}, Sep w L U → Sep w L (fun k => U k ∧ k < w.heap.size)
  | [], _, _ => trivial
  | A :: _, _, ⟨fp, h1, h2, h3⟩ => ⟨fp, h1, fun k hk => ⟨h2 k hk, A.live h1 k hk⟩, h3.alive.mono (fun k hk => ⟨⟨hk.1.1, hk.2⟩, hk.1.2⟩)⟩
theorem Sep.swap {w : World} {A B : Ch} {L : List Ch} {U : Nat → Prop} (h : Sep w (A :: B :: L) U) : Sep w (B :: A :: L) U := by
  obtain ⟨fp, h1, h2, fq, h3, h4, h5⟩ := h
  exact ⟨fq, h3, fun k hk => (h4 k hk).1, fp, h1, fun k hk => ⟨h2 k hk, fun hq => (h4 k hq).2 hk⟩, h5.mono (fun k hk => ⟨⟨hk.1.1, hk.2⟩, hk.1.2⟩)⟩
theorem Sep.cons {w : World} {A : Ch} {L L' : List Ch} (hl : ∀ U, Sep w L U → Sep w L' U) {U : Nat → Prop} (h : Sep w (A :: L) U) : Sep w (A :: L') U := by
  obtain ⟨fp, h1, h2, h3⟩ := h
  exact ⟨fp, h1, h2, hl _ h3⟩
theorem Sep.perm {w : World} {L L' : List Ch} (h : L.Perm L') : ∀ U, Sep w L U → Sep w L' U := by
  induction h with
  | nil => exact fun _ h => h
  | cons A _ ih => exact fun _ h => Sep.cons ih h
  | swap A B L => exact fun _ h => h.swap
  | trans _ _ ih1 ih2 => exact fun U h => ih2 U (ih1 U h)
theorem Sep.app {w : World} : ∀ {L1 L2 : List Ch} {U : Nat → Prop}, Sep w (L1 ++ L2) U → ∃ V : Nat → Prop, (∀ k, V k → U k) ∧ Sep w L1 V ∧ Sep w L2 (fun k => U k ∧ ¬ V k)
  | [], _, _, h => ⟨fun _ => False, fun _ h => h.elim, trivial, h.mono (fun _ hk => ⟨hk, id⟩)⟩
  | _ :: L1, _, _, ⟨fp, h1, h2, h3⟩ => by
    obtain ⟨V, hv, h4, h5⟩ := Sep.app (L1 := L1) h3
    exact ⟨fun k => fp k ∨ V k, fun k hk => hk.elim (h2 k) (fun z => (hv k z).1), ⟨fp, h1, fun _ => .inl, h4.mono (fun k hk => ⟨.inr hk, (hv k hk).2⟩)⟩, h5.mono (fun k hk => ⟨hk.1.1, fun z => z.elim hk.1.2 hk.2⟩)⟩
theorem Sep.join {w : World} : ∀ {L1 L2 : List Ch} {U V : Nat → Prop}, (∀ k, V k → U k) → Sep w L1 V → Sep w L2 (fun k => U k ∧ ¬ V k) → Sep w (L1 ++ L2) U
  | [], _, _, _, _, _, h => h.mono (fun _ hk => hk.1)
  | _ :: L1, _, _, V, hv, ⟨fp, h1, h2, h3⟩, h => ⟨fp, h1, fun k hk => hv k (h2 k hk), Sep.join (L1 := L1) (V := fun k => V k ∧ ¬ fp k) (fun k hk => ⟨hv k hk.1, hk.2⟩) h3 (h.mono (fun k hk => ⟨⟨hk.1, fun z => hk.2 (h2 k z)⟩, fun z => hk.2 z.1⟩))⟩
/-- Where a walk stands: what it may touch and has kept, and the chunks it has. -/
structure St (w0 : World) (U : Nat → Prop) (w : World) (L : List Ch) : Prop where
  keeps : Keeps U w0 w
  sep : Sep w L U
  up : ∀ k, w0.heap.size ≤ k → U k
theorem St.start {U : Nat → Prop} {w : World} {L : List Ch} (h : Sep w L U) (hu : ∀ k, w.heap.size ≤ k → U k) : St w U w L := ⟨Keeps.refl _ _, h, hu⟩
theorem St.perm {w0 w : World} {U : Nat → Prop} {L L' : List Ch} (h : St w0 U w L) (hp : L.Perm L') : St w0 U w L' := ⟨h.keeps, Sep.perm hp _ h.sep, h.up⟩
theorem St.imp {w0 w : World} {U : Nat → Prop} {L L' : List Ch} (h : St w0 U w L) (hp : ∀ V, Sep w L V → Sep w L' V) : St w0 U w L' := ⟨h.keeps, hp _ h.sep, h.up⟩
theorem St.drop {w0 w : World} {U : Nat → Prop} {A : Ch} {L : List Ch} (h : St w0 U w (A :: L)) : St w0 U w L := by
  obtain ⟨fp, _, _, h3⟩ := h.sep
  exact ⟨h.keeps, h3.mono (fun _ hk => hk.1), h.up⟩
theorem St.quiet {w0 w w' : World} {U : Nat → Prop} {L : List Ch} (h : St w0 U w L) (hb : Below w.heap.size w w') : St w0 U w' L :=
  ⟨h.keeps.trans (Keeps.of_below U hb), h.sep.keep (fun k _ hk => hb.block k hk), h.up⟩
theorem St.drew {w0 w : World} {U : Nat → Prop} {L : List Ch} (h : St w0 U w L) : St w0 U w.drew L := h.quiet ⟨rfl, rfl, rfl, Nat.le_refl _, fun _ _ => rfl⟩
/-- A call that is told of the chunks L1 alone. -/
theorem St.call {w0 w : World} {U : Nat → Prop} {L1 L2 : List Ch} (h : St w0 U w (L1 ++ L2)) : ∃ V : Nat → Prop, Sep w L1 V ∧ (∀ k, w.heap.size ≤ k → V k) ∧ (∀ k, V k → U k) ∧ ∀ w' L1', Sep w' L1' V → Keeps V w w' → St w0 U w' (L1' ++ L2) := by
  obtain ⟨V, hv, h1, h2⟩ := Sep.app h.sep
  have hu : ∀ k, V k ∨ w.heap.size ≤ k → U k := fun k hk => hk.elim (hv k) (fun z => h.up k (Nat.le_trans h.keeps.size z))
  refine ⟨fun k => V k ∨ w.heap.size ≤ k, h1.mono (fun _ => .inl), fun _ => .inr, hu, fun w' L1' h3 hk => ⟨h.keeps.trans' hk (fun k z => .inl (hu k z)), ?_, h.up⟩⟩
  refine Sep.join hu h3 ((h2.alive.keep (fun k hk1 hk2 => hk.block k hk2 (fun z => z.elim hk1.1.2 (fun z => by omega)))).mono (fun k hk1 => ⟨hk1.1.1, fun z => z.elim hk1.1.2 (fun z => by have := hk1.2; omega)⟩))
theorem focus : ∀ {L : List Ch} {i : Nat} {A : Ch}, L[i]? = some A → ∃ L1 L2, L = L1 ++ A :: L2 ∧ ∀ A', L.set i A' = L1 ++ A' :: L2
  | [], i, _, h => by simp at h
  | B :: L, 0, A, h => by
    rw [List.getElem?_cons_zero] at h
    cases h
    exact ⟨[], L, rfl, fun _ => rfl⟩
  | B :: L, i + 1, A, h => by
    rw [List.getElem?_cons_succ] at h
    obtain ⟨L1, L2, h1, h2⟩ := focus h
    exact ⟨B :: L1, L2, by rw [h1]; rfl, fun A' => by rw [List.set_cons_succ, h2]; rfl⟩
/-- One chunk of the list becomes another one. -/
theorem St.upd {w0 w : World} {U : Nat → Prop} {L : List Ch} {i : Nat} {A : Ch} (h : St w0 U w L) (hi : L[i]? = some A) : ∃ fp : Nat → Prop, A.sat w fp ∧ ∀ w' (A' : Ch) (fp' : Nat → Prop), A'.sat w' fp' → (∀ k, fp' k → fp k ∨ w.heap.size ≤ k) → Keeps fp w w' → St w0 U w' (L.set i A') := by
  obtain ⟨L1, L2, rfl, hs⟩ := focus hi
  obtain ⟨fq, g1, g2, g3⟩ := Sep.perm (List.perm_middle : (L1 ++ A :: L2).Perm (A :: (L1 ++ L2))) _ h.sep
  refine ⟨fq, g1, fun w' A' fp' a1 a2 a3 => ?_⟩
  rw [hs]
  have a4 : ∀ k, fp' k → U k := fun k hk => (a2 k hk).elim (g2 k) (fun z => h.up k (Nat.le_trans h.keeps.size z))
  refine St.perm (L := A' :: (L1 ++ L2)) ⟨h.keeps.trans' a3 (fun k z => .inl (g2 k z)), ⟨fp', a1, a4, ?_⟩, h.up⟩ List.perm_middle.symm
  refine (g3.alive.keep (fun k hk1 hk2 => a3.block k hk2 hk1.1.2)).mono (fun k hk1 => ⟨hk1.1.1, fun z => (a2 k z).elim hk1.1.2 (fun z => by have := hk1.2; omega)⟩)
theorem St.sat {w0 w : World} {U : Nat → Prop} {L : List Ch} {i : Nat} {A : Ch} (h : St w0 U w L) (hi : L[i]? = some A) : ∃ fp : Nat → Prop, A.sat w fp ∧ ∀ k, fp k → U k := by
  obtain ⟨L1, L2, rfl, _⟩ := focus hi
  obtain ⟨fq, g1, g2, _⟩ := Sep.perm (List.perm_middle : (L1 ++ A :: L2).Perm (A :: (L1 ++ L2))) _ h.sep
  exact ⟨fq, g1, g2⟩
/-- A new chunk. -/
theorem St.new {w0 w w' : World} {U : Nat → Prop} {L : List Ch} (h : St w0 U w L) (hb : Below w.heap.size w w') {A : Ch} {fp : Nat → Prop} (ha : A.sat w' fp) (hf : ∀ k, fp k → w.heap.size ≤ k) : St w0 U w' (A :: L) := by
  refine ⟨h.keeps.trans (Keeps.of_below U hb), ⟨fp, ha, fun k hk => h.up k (Nat.le_trans h.keeps.size (hf k hk)), ?_⟩, h.up⟩
  exact (h.sep.alive.keep (fun k _ hk => hb.block k hk)).mono (fun k hk => ⟨hk.1, fun z => by have := hf k z; have := hk.2; omega⟩)
/-! ### kinds of chunks -/
/-- A block of cells. -/
def blk (g : Nat) (cs : Array Value) (t : TypeId) : Ch where
  sat w fp := w.heap[g]? = some (.cells cs t (0, 0)) ∧ ∀ k, fp k ↔ k = g
  keep h hk := ⟨(hk g ((h.2 g).2 rfl)).trans h.1, h.2⟩
  live h k hk := by
    obtain rfl := (h.2 k).1 hk
    exact (Array.getElem?_eq_some_iff.1 h.1).1
/-- A slice's own row. -/
def row (e : TypeId) (sz : Nat) (v : Value) (n : Nat) (xs : List Value) : Ch where
  sat w fp := w.ownsRow 0 e sz v n xs ∧ ∀ k, fp k ↔ v.ownBlock = some k
  keep := by
    rintro w w' fp ⟨⟨h1, h2⟩, h3⟩ hk
    refine ⟨⟨h1, ?_⟩, h3⟩
    rcases h2 with h2 | ⟨g, cap, cur, rfl, hb, hg, r⟩
    · exact .inl h2
    · exact .inr ⟨g, cap, cur, rfl, hb, (hk g ((h3 g).2 rfl)).trans hg, r⟩
  live := by
    rintro w fp ⟨h1, h3⟩ k hk
    exact (h1.lt k ((h3 k).1 hk)).2
/-- A fact. -/
def fact (p : Prop) : Ch where
  sat _ fp := p ∧ ∀ k, ¬ fp k
  keep h _ := h
  live h k hk := (h.2 k hk).elim
/-- Some chunk of a family. -/
def ex {α : Type} (f : α → Ch) : Ch where
  sat w fp := ∃ a, (f a).sat w fp
  keep h hk := let ⟨a, h⟩ := h; ⟨a, (f a).keep h hk⟩
  live h k hk := let ⟨a, h⟩ := h; (f a).live h k hk
/-- Several chunks as one. -/
def star (L : List Ch) : Ch where
  sat w fp := Sep w L fp ∧ ∀ k, fp k → k < w.heap.size
  keep {w w' fp} h hk := ⟨h.1.keep (fun k hu _ => hk k hu), fun k hu => by
    exact (Array.getElem?_eq_some_iff.1 ((hk k hu).trans (Array.getElem?_eq_getElem (h.2 k hu)))).1⟩
  live h := h.2
theorem open_ex {w : World} {α : Type} {f : α → Ch} {L : List Ch} {U : Nat → Prop} (h : Sep w (ex f :: L) U) : ∃ a, Sep w (f a :: L) U := by
  obtain ⟨fp, ⟨a, h1⟩, h2, h3⟩ := h
  exact ⟨a, fp, h1, h2, h3⟩
theorem shut_ex {w : World} {α : Type} {f : α → Ch} {L : List Ch} {U : Nat → Prop} (a : α) (h : Sep w (f a :: L) U) : Sep w (ex f :: L) U := by
  obtain ⟨fp, h1, h2, h3⟩ := h
  exact ⟨fp, ⟨a, h1⟩, h2, h3⟩
theorem open_star {w : World} {L1 L : List Ch} {U : Nat → Prop} (h : Sep w (star L1 :: L) U) : Sep w (L1 ++ L) U := by
  obtain ⟨fp, ⟨h1, _⟩, h2, h3⟩ := h
  exact Sep.join h2 h1 h3
theorem shut_star {w : World} {L1 L : List Ch} {U : Nat → Prop} (h : Sep w (L1 ++ L) U) : Sep w (star L1 :: L) U := by
  obtain ⟨V, hv, h1, h2⟩ := Sep.app h
  exact ⟨fun k => V k ∧ k < w.heap.size, ⟨h1.alive, fun _ hk => hk.2⟩, fun k hk => hv k hk.1, h2.alive.mono (fun k hk => ⟨hk.1.1, fun z => hk.1.2 z.1⟩)⟩
theorem open_fact {w : World} {p : Prop} {L : List Ch} {U : Nat → Prop} (h : Sep w (fact p :: L) U) : p ∧ Sep w L U := by
  obtain ⟨fp, ⟨h1, _⟩, _, h3⟩ := h
  exact ⟨h1, h3.mono (fun _ hk => hk.1)⟩
theorem shut_fact {w : World} {p : Prop} {L : List Ch} {U : Nat → Prop} (hp : p) (h : Sep w L U) : Sep w (fact p :: L) U :=
  ⟨fun _ => False, ⟨hp, fun _ => id⟩, fun _ hk => hk.elim, h.mono (fun _ hk => ⟨hk, id⟩)⟩
/-- An order of a list, told by numbers. -/
theorem range_get {α : Type} (L : List α) : (List.range L.length).filterMap (fun i => L[i]?) = L := by
  induction L with
  | nil => rfl
  | cons a r ih =>
    rw [List.length_cons, List.range_succ_eq_map, List.filterMap_cons_some (f := fun i => (a :: r)[i]?) (b := a) rfl, List.filterMap_map]
    exact congrArg (a :: ·) ih
theorem perm_idx {α : Type} {L L' : List α} (is : List Nat) (h : is.isPerm (List.range L.length) = true) (hl : is.filterMap (fun i => L[i]?) = L') : L.Perm L' := by
  have h1 := (List.isPerm_iff.1 h).filterMap (fun i => L[i]?)
  rw [range_get, hl] at h1
  exact h1.symm
end Go.Proofs.Ytckimhhncpnkpaa.Sep
