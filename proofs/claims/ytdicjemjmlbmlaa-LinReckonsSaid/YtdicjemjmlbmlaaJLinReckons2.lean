/- Joined by wip/tools/shake.py for the claim of LinReckons: PAx0, HOpen, Shelf, HMono, HSort, HOut, LinA, NatV, HPack, HNorm, PAx1, PAx2, NatB, PAx3. -/
import Derived.Test.YtdicjemjmlbmlaaProg
import Derived.Below
import Derived.Sort.Row
import Derived.Deep.Draws
import Derived.Deep.AppendLies
import Derived.Maps.AppendAt
import Derived.OwnWalk
import Derived.Laws.BytesArg
import Derived.Laws.MakeOwn
import Derived.Laws.OwnMore
import Derived.Deep.OwnRows
import Derived.Tactics
import Derived.Lib.ConvBytes
import Derived.Laws.Slices
import Derived.WalkKit
import Derived.KernelRfl
import Derived.RowKit3
import Derived.Deep.LoopGhost
import Derived.Deep.QuietTactic
import Derived.BigQuiet
import Derived.WideLaws
import Derived.Deep.DeepCutAuto
import Derived.Deep.CutBlock
import Derived.Deep.RegionHeld3
import Derived.Laws.Rows
import Derived.Lib.AppendStr
import Derived.ArgAppend
import Derived.Laws.IdiomCopy
import Derived.OrdersHeld
import Derived.Laws.BitsLemmas
import Derived.RowKit
import Derived.Test.YtdicjemjmlbmlaaJLinReckons1
import Derived.Laws.StructEq
import Derived.Deep.SlicePairs
import Derived.ChangeArms
import Derived.Shelf.SlSortCmp.NoneTotal
import Derived.Shelf.Small.Bits
import Derived.Shelf.Strconv.Itoa0
import Derived.Shelf.SlSortCmp.WholeK
import Derived.Sort.OwnSorted
import Derived.WalkSpells
import Derived.Laws.Bits64
/- Written by a program of this session, wip/tools/patch_print.py, over the kit's print of the loaded functions. -/
namespace Go.Proofs.Ytdicjemjmlbmlaa.H
end Go.Proofs.Ytdicjemjmlbmlaa.H
namespace Go.Proofs.Ytdicjemjmlbmlaa.PA
open Go.RowKit Go.Proofs.YtdicjemjmlbmlaaW.PrintWords Go.Proofs.YtdicjemjmlbmlaaW.PrintLast Go.Proofs.YtdicjemjmlbmlaaW.PrintMore Go.Proofs.Ytdicjemjmlbmlaa.H
attribute [local go_sem] max2_int min2_int max_two min_two max_three min_three max_four min_four   -- for this text's walks alone
set_option linter.unusedVariables false
set_option linter.unusedSimpArgs false



def errW : Option Int → Value
 | none => .nilIface
 | some c => .iface 0 (.int .i64 c)
theorem errW_none : errW none = .nilIface := rfl
theorem errW_some (c : Int) : errW (some c) = .iface 0 (.int .i64 c) := rfl

theorem info4 : (Try.prog.info? 4).map (fun i => (i.zero, i.size, i.bytes)) = some (some (.bool false), 1, 1) := by kernel_rfl
theorem info46 : (Try.prog.info? 46).map (fun i => (i.zero, i.size, i.bytes)) = some (some (.agg #[(.int .i64 0), (.bool false), (.slice none 0 0)]), 3, 40) := by kernel_rfl
theorem info81 : (Try.prog.info? 81).map (fun i => (i.zero, i.size, i.bytes)) = some (some (.int .u32 0), 1, 4) := by kernel_rfl
-- the values' own types
/-! #### struct type 24 -/
structure S24 where
 f0 : Bool
 f1 : (List Int)
def z24 : S24 := ⟨false, ([] : List Int)⟩
def k24 : Kd S24 := Kd.iso (Kd.pair Kd.bool (Kd.slice 81 (Kd.int .u32))) (fun x : S24 => (x.f0, x.f1))
theorem k24_open {w : World} {x : S24} {cs : List Value} (h : k24.K w x cs) : ∃ A1 c1, cs = [.bool x.f0, .slice A1 x.f1.length c1] ∧ x.f1.length ≤ c1 ∧ (Kd.int .u32).C w A1 x.f1.length x.f1 := by
 obtain ⟨_, _, rfl, rfl, ⟨A1, c1, rfl, l1, g1⟩⟩ := h
 exact ⟨A1, c1, rfl, l1, g1⟩
theorem k24_mk (w : World) (x : S24) {A1 : Option Addr} {c1 : Nat} (l1 : x.f1.length ≤ c1) (g1 : (Kd.int .u32).C w A1 x.f1.length x.f1) : k24.K w x [.bool x.f0, .slice A1 x.f1.length c1] := ⟨[.bool x.f0], [.slice A1 x.f1.length c1], rfl, rfl, ⟨A1, c1, rfl, l1, g1⟩⟩
theorem k24_mkM (w : World) (base : Nat) (ok : Nat → Prop) (x : S24) {v1 : Value} (g1 : (Kd.int .u32).R 81 w base ok v1 x.f1) : k24.M w base ok x [.bool x.f0, v1] := ⟨[.bool x.f0], [v1], rfl, rfl, ⟨v1, rfl, g1⟩⟩
/-! #### struct type 46 -/
structure S46 where
 f0 : Int
 f1 : S24
def z46 : S46 := ⟨(0 : Int), z24⟩
def k46 : Kd S46 := Kd.iso (Kd.pair (Kd.int .i64) k24) (fun x : S46 => (x.f0, x.f1))
theorem k46_open {w : World} {x : S46} {cs : List Value} (h : k46.K w x cs) : ∃ A2 c2, cs = [.int .i64 x.f0, .bool x.f1.f0, .slice A2 x.f1.f1.length c2] ∧ x.f1.f1.length ≤ c2 ∧ (Kd.int .u32).C w A2 x.f1.f1.length x.f1.f1 := by
 obtain ⟨_, _, rfl, rfl, s1⟩ := h
 obtain ⟨A2, c2, rfl, l2, g2⟩ := k24_open s1
 exact ⟨A2, c2, rfl, l2, g2⟩
theorem k46_mk (w : World) (x : S46) {A2 : Option Addr} {c2 : Nat} (l2 : x.f1.f1.length ≤ c2) (g2 : (Kd.int .u32).C w A2 x.f1.f1.length x.f1.f1) : k46.K w x [.int .i64 x.f0, .bool x.f1.f0, .slice A2 x.f1.f1.length c2] := ⟨[.int .i64 x.f0], [.bool x.f1.f0, .slice A2 x.f1.f1.length c2], rfl, rfl, (k24_mk w x.f1 l2 g2)⟩
theorem k46_mkM (w : World) (base : Nat) (ok : Nat → Prop) (x : S46) {v2 : Value} (g2 : (Kd.int .u32).R 81 w base ok v2 x.f1.f1) : k46.M w base ok x [.int .i64 x.f0, .bool x.f1.f0, v2] := ⟨[.int .i64 x.f0], [.bool x.f1.f0, v2], rfl, rfl, (k24_mkM w base ok x.f1 g2)⟩
theorem k46_mkF (W : World) (ok : Nat → Prop) (x : S46) {A2 : Option Addr} {c2 : Nat} (l2 : x.f1.f1.length ≤ c2) (g2 : Kd.F (Kd.int .u32) W ok A2 x.f1.f1.length x.f1.f1) : Kd.FK k46 W ok x [.int .i64 x.f0, .bool x.f1.f0, .slice A2 x.f1.f1.length c2] := fun W2 hW => k46_mk W2 x l2 (g2 W2 hW)
def rd_T46 (xs : List S46) (i : Int) : S46 := xs.getD i.toNat z46
theorem at_T46 {w : World} {A : Option Addr} {n : Nat} {xs : List S46} (h : Kd.C k46 w A n xs) (i : Int) (h0 : 0 ≤ i) (h1 : i < n) : ∃ ad A2 c2, A = some ad ∧ w.cell? (ad.add (i.toNat * 3)) = some (.int .i64 (rd_T46 xs i).f0) ∧ w.cell? ⟨(ad.add (i.toNat * 3)).block, (ad.add (i.toNat * 3)).off + 1, none⟩ = some (.bool (rd_T46 xs i).f1.f0) ∧ w.cell? ⟨(ad.add (i.toNat * 3)).block, (ad.add (i.toNat * 3)).off + 2, none⟩ = some (.slice A2 (rd_T46 xs i).f1.f1.length c2) ∧ (rd_T46 xs i).f1.f1.length ≤ c2 ∧ (Kd.int .u32).C w A2 (rd_T46 xs i).f1.f1.length (rd_T46 xs i).f1.f1 := by
 obtain ⟨ad, c, e, _, hK, hc0⟩ := Kd.C_get h z46 i h0 h1
 have hc : ∀ j u, c[j]? = some u → w.cell? (ad.add (i.toNat * 3 + j)) = some u := hc0
 obtain ⟨A2, c2, rfl, l2, g2⟩ := k46_open hK
 exact ⟨ad, A2, c2, e, hc 0 _ rfl, by rw [← add_field _ _ 1 (by omega)]; exact hc 1 _ rfl, by rw [← add_field _ _ 2 (by omega)]; exact hc 2 _ rfl, l2, g2⟩

theorem box_twice (w : World) (b o : Nat) (v v' : Value) : ((w.setCell ⟨b, o, none⟩ v).setCell ⟨b, o, none⟩ v').cell? ⟨b, o, none⟩ = (w.setCell ⟨b, o, none⟩ v').cell? ⟨b, o, none⟩ := by
 rw [Go.Sort.setCell_eq, Go.Sort.setCell_eq, Go.Sort.mapBlock_mapBlock, Go.Sort.setCell_eq]
 congr 2
 funext c
 simp

end Go.Proofs.Ytdicjemjmlbmlaa.PA
/- What is read as data, of any shape: a kind's reading, type by type. -/
namespace Go.Proofs.Ytdicjemjmlbmlaa.H
open Go.RowKit Go.Proofs.YtdicjemjmlbmlaaW.PrintWords
/-- Whatever reads as data of the type is of the kind. -/
def Opens {α : Type} (P : Program) (d : Kd α) (t : TypeId) (g : α → Prop) : Prop := P.cellsOf t = d.sz ∧
  ∀ (H : Type) (enc : TypeId × Value → H) (w : World) (base : Nat) (spare : Nat → Bool) (held : Bool) (fuel : Nat) (cs : List Value) (x : DataW H × List MemPlace), DataW.trod enc P w base spare held fuel t cs = some x → ∃ v, d.K w v cs ∧ g v
theorem Opens.int {P : Program} {t : TypeId} {k : IntKind} (ht : P.underlying t = some (.int k)) (hc : P.cellsOf t = 1) : Opens P (Kd.int k) t (fun v => (Lit.int k v).wf = true) :=
  ⟨hc, fun H enc w base spare held fuel cs x h => by obtain ⟨n, e, _, hw⟩ := DataW.trod_int ht h; exact ⟨n, e, hw⟩⟩
theorem Opens.bool {P : Program} {t : TypeId} (ht : P.underlying t = some .bool) (hc : P.cellsOf t = 1) : Opens P Kd.bool t (fun _ => True) :=
  ⟨hc, fun H enc w base spare held fuel cs x h => by obtain ⟨n, e, _⟩ := DataW.trod_bool ht h; exact ⟨n, e, trivial⟩⟩
theorem reads_of_each {α : Type} {P : Program} {d : Kd α} {e : TypeId} {g : α → Prop} {H : Type} {enc : TypeId × Value → H} {w : World} {base : Nat} {spare : Nat → Bool} {held : Bool} {a : Addr} {len m n : Nat} {D : Nat → DataW H} {Pl : Nat → List MemPlace}
    (he : Opens P d e g) (hlm : len ≤ m) (hlen : len ≤ maxLen) (hx : ∀ i, i < m → ∃ cs', w.cells? base (a.add (i * P.cellsOf e)) (P.cellsOf e) = some cs' ∧ DataW.trod enc P w base spare held n e cs' = some (D i, Pl i)) :
    ∃ l : List α, l.length = len ∧ d.C w (some a) len l ∧ ∀ x ∈ l, g x := by
  by_cases h0 : len = 0
  · subst h0; exact ⟨[], rfl, ⟨rfl, Nat.zero_le _, fun h => absurd h (Nat.lt_irrefl 0)⟩, by simp⟩
  have each : ∀ i, i < len → ∃ v : α, (∃ cs', w.cells? base (a.add (i * P.cellsOf e)) (P.cellsOf e) = some cs' ∧ d.K w v cs') ∧ g v := by
    intro i hi
    obtain ⟨cs', h1, h2⟩ := hx i (by omega)
    obtain ⟨v, h3, h4⟩ := he.2 _ _ _ _ _ _ _ _ _ h2
    exact ⟨v, ⟨cs', h1, h3⟩, h4⟩
  haveI : Inhabited α := ⟨(each 0 (by omega)).choose⟩
  obtain ⟨q, hq⟩ := Go.Deep.choose_lt each
  refine ⟨(List.range len).map q, by simp, ⟨by simp, Nat.le_trans hlen (by decide), fun hn => ⟨a, rfl, fun j p hp => ?_⟩⟩, fun x hx => ?_⟩
  · rw [List.getElem?_map] at hp
    obtain ⟨j', hj', rfl⟩ := Option.map_eq_some_iff.1 hp
    obtain ⟨hjl, rfl⟩ := List.getElem?_eq_some_iff.1 hj'
    rw [List.length_range] at hjl
    simp only [List.getElem_range]
    obtain ⟨cs', h1, h2⟩ := (hq j hjl).1
    obtain ⟨_, hl, hc⟩ := World.cells?_some h1
    rw [he.1] at hl hc
    refine ⟨cs', hl, h2, fun i u hu => ?_⟩
    have hi : i < cs'.length := (List.getElem?_eq_some_iff.1 hu).1
    have := hc i (by omega)
    rw [Go.Deep.add_add] at this
    exact this.trans hu
  · obtain ⟨j, hj, rfl⟩ := List.mem_map.1 hx
    exact (hq j (List.mem_range.1 hj)).2
theorem Opens.slice {α : Type} {P : Program} {d : Kd α} {t e : TypeId} {g : α → Prop} (ht : P.underlying t = some (.slice e)) (hc : P.cellsOf t = 1) (he : Opens P d e g) : Opens P (Kd.slice e d) t (fun l => ∀ x ∈ l, g x) :=
  ⟨hc, fun H enc w base spare held fuel cs x h => by
    rcases Go.Deep.open_slice ht h with ⟨rfl, _⟩ | ⟨a, len, cap, m, n, D, Pl, rfl, hb, hl, hm, hmm, _, hx⟩
    · exact ⟨[], ⟨none, 0, rfl, Nat.le_refl _, ⟨rfl, Nat.zero_le _, fun h => absurd h (Nat.lt_irrefl 0)⟩⟩, by simp⟩
    · have hlm : len ≤ m := by rw [hmm]; split <;> omega
      obtain ⟨l, rfl, h1, h2⟩ := reads_of_each he hlm (Nat.le_trans hl hm) hx
      exact ⟨l, ⟨some a, cap, rfl, hl, h1⟩, h2⟩⟩
theorem Opens.iso {α β : Type} {P : Program} {d : Kd α} {t : TypeId} {g : α → Prop} (h : Opens P d t g) (f : β → α) (inv : ∀ a, ∃ b, f b = a) : Opens P (Kd.iso d f) t (fun b => g (f b)) :=
  ⟨h.1, fun H enc w base spare held fuel cs x hx => by
    obtain ⟨v, h1, h2⟩ := h.2 _ _ _ _ _ _ _ _ _ hx
    obtain ⟨b, rfl⟩ := inv v
    exact ⟨b, h1, h2⟩⟩
/-- The fields from a place on. -/
def OpensAt {α : Type} (P : Program) (N : Nat) (d : Kd α) (fs : List Field) (o : Nat) (g : α → Prop) : Prop := o + d.sz = N ∧
  ∀ (H : Type) (enc : TypeId × Value → H) (w : World) (base : Nat) (spare : Nat → Bool) (held : Bool) (n : Nat) (cs : List Value), cs.length = N → (∀ f ∈ fs, ∃ x, DataW.trod enc P w base spare held n f.type ((cs.drop f.offset).take (P.cellsOf f.type)) = some x) → ∃ v, d.K w v (cs.drop o) ∧ g v
theorem OpensAt.last {α : Type} {P : Program} {N : Nat} {d : Kd α} {f : Field} {o : Nat} {g : α → Prop} (ho : f.offset = o) (h : Opens P d f.type g) (hN : o + d.sz = N) : OpensAt P N d [f] o g :=
  ⟨hN, fun H enc w base spare held n cs hl hf => by
    obtain ⟨x, hx⟩ := hf f List.mem_cons_self
    rw [ho, List.take_of_length_le (by rw [List.length_drop, h.1]; omega)] at hx
    exact h.2 _ _ _ _ _ _ _ _ _ hx⟩
theorem OpensAt.cons {α β : Type} {P : Program} {N : Nat} {d : Kd α} {d' : Kd β} {f : Field} {r : List Field} {o : Nat} {g : α → Prop} {g' : β → Prop} (ho : f.offset = o) (h : Opens P d f.type g) (hr : OpensAt P N d' r (o + d.sz) g') : OpensAt P N (Kd.pair d d') (f :: r) o (fun x => g x.1 ∧ g' x.2) :=
  ⟨by have := hr.1; show o + (d.sz + d'.sz) = N; omega, fun H enc w base spare held n cs hl hf => by
    obtain ⟨x, hx⟩ := hf f List.mem_cons_self
    rw [ho, h.1] at hx
    obtain ⟨v, h1, h2⟩ := h.2 _ _ _ _ _ _ _ _ _ hx
    obtain ⟨v', h3, h4⟩ := hr.2 H enc w base spare held n cs hl (fun f' hf' => hf f' (List.mem_cons_of_mem _ hf'))
    refine ⟨(v, v'), ⟨_, _, ?_, h1, h3⟩, h2, h4⟩
    rw [← List.drop_drop, List.take_append_drop]⟩
theorem Opens.struct {α : Type} {P : Program} {d : Kd α} {t : TypeId} {fs : Array Field} {g : α → Prop} (ht : P.underlying t = some (.struct fs)) (hc : P.cellsOf t = d.sz) (h : OpensAt P d.sz d fs.toList 0 g) : Opens P d t g :=
  ⟨hc, fun H enc w base spare held fuel cs x hx => by
    obtain ⟨xs, n, _, _, hl, hxl, hf⟩ := DataW.trod_struct ht hx
    obtain ⟨v, h1, h2⟩ := h.2 H enc w base spare held n cs (hl.trans hc) (fun f hfm => by
      obtain ⟨i, hi⟩ := List.getElem?_of_mem hfm
      have h1 : fs[i]? = some f := by rw [← Array.getElem?_toList]; exact hi
      have h2 := hf i f h1
      have hlt : i < xs.length := by rw [hxl]; exact (Array.getElem?_eq_some_iff.1 h1).1
      rw [List.getElem?_eq_getElem hlt] at h2
      exact ⟨_, h2⟩)
    exact ⟨v, h1, h2⟩⟩
/-- An argument that is a slice. -/
theorem Opens.arg_slice {α : Type} {P : Program} {d : Kd α} {t e : TypeId} {g : α → Prop} {H : Type} {enc : TypeId × Value → H} {w : World} {base : Nat} {spare : Nat → Bool} {held : Bool} {A : Option Addr} {len cap : Nat} {D : DataW H} {pl : List MemPlace}
    (ht : P.underlying t = some (.slice e)) (he : Opens P d e g) (h : DataW.Trod enc P w base spare held t (.slice A len cap) D pl) :
    ∃ l : List α, l.length = len ∧ len ≤ cap ∧ d.C w A len l ∧ ∀ x ∈ l, g x := by
  obtain ⟨fuel, hf⟩ := h
  rcases Go.Deep.open_slice ht hf with ⟨hcs, _⟩ | ⟨a, len', cap', m, n, D, Pl, hcs, hb, hl, hm, hmm, _, hx⟩
  · simp [Value.cells] at hcs
    obtain ⟨rfl, rfl, rfl⟩ := hcs
    exact ⟨[], rfl, Nat.le_refl _, ⟨rfl, Nat.zero_le _, fun h => absurd h (Nat.lt_irrefl 0)⟩, by simp⟩
  · simp [Value.cells] at hcs
    obtain ⟨rfl, rfl, rfl⟩ := hcs
    have hlm : len ≤ m := by rw [hmm]; split <;> omega
    obtain ⟨l, h0, h1, h2⟩ := reads_of_each he hlm (Nat.le_trans hl hm) hx
    exact ⟨l, h0, hl, h1, h2⟩
end Go.Proofs.Ytdicjemjmlbmlaa.H
/-
  DERIVED: THE SHELF's CONTRACTS AT THIS DUMP, IN PLAIN WORDS (tools/lay-plain.mjs out of 'TryShelf.lean', which tools/lay-shelf.mjs wrote): THE SAME DECLARATIONS UNDER THE SAME NAMES: 'import', 'namespace', 'open', 'def', 'theorem' AND NOTHING ELSE: no command of the shelf's: FOR A HAND-IN. Each laying: the table of numbers ('.._ren') and one theorem, a field a fact of the dump's own or the kernel's comparison; each contract: ONE APPLICATION.
-/
namespace Go.Proofs
open Go.Shelf
def Try.sortMono_ren : Go.Shelf.Ren := ⟨fun | 6 => 58 | 15 => 81 | 14 => 80 | 28 => 106 | 29 => 107 | 20 => 98 | 21 => 99 | 22 => 100 | 23 => 101 | 24 => 102 | 25 => 103 | 26 => 104 | 27 => 105 | 46 => 112 | 47 => 113 | 48 => 114 | 49 => 115 | 50 => 116 | 57 => 117 | n => n, fun | 22 => 25 | 24 => 46 | 25 => 69 | 3 => 3 | 39 => 85 | 0 => 0 | 53 => 81 | 55 => 72 | 4 => 4 | 46 => 104 | 45 => 103 | 50 => 108 | 5 => 5 | 9 => 9 | 66 => 115 | 70 => 119 | 76 => 121 | 77 => 122 | n => n, fun | n => n⟩
theorem Try.sortMono : Go.Proofs.SlLaysF0.n6 Try.prog Try.sortMono_ren := {
  mixed := by kernel_rfl
  f6 := ⟨Try.f58.name, by decide, Try.func58.trans (congrArg some (by kernel_rfl))⟩
  f14 := ⟨Try.f80.name, by decide, Try.func80.trans (congrArg some (by kernel_rfl))⟩
  f15 := Try.func81.trans (congrArg some (by kernel_rfl))
  f20 := ⟨Try.f98.name, by decide, Try.func98.trans (congrArg some (by kernel_rfl))⟩
  f21 := ⟨Try.f99.name, by decide, Try.func99.trans (congrArg some (by kernel_rfl))⟩
  f22 := ⟨Try.f100.name, by decide, Try.func100.trans (congrArg some (by kernel_rfl))⟩
  f23 := ⟨Try.f101.name, by decide, Try.func101.trans (congrArg some (by kernel_rfl))⟩
  f24 := ⟨Try.f102.name, by decide, Try.func102.trans (congrArg some (by kernel_rfl))⟩
  f25 := ⟨Try.f103.name, by decide, Try.func103.trans (congrArg some (by kernel_rfl))⟩
  f26 := ⟨Try.f104.name, by decide, Try.func104.trans (congrArg some (by kernel_rfl))⟩
  f27 := ⟨Try.f105.name, by decide, Try.func105.trans (congrArg some (by kernel_rfl))⟩
  f28 := Try.func106.trans (congrArg some (by kernel_rfl))
  f29 := Try.func107.trans (congrArg some (by kernel_rfl))
  f46 := ⟨Try.f112.name, by decide, Try.func112.trans (congrArg some (by kernel_rfl))⟩
  f47 := Try.func113.trans (congrArg some (by kernel_rfl))
  f48 := Try.func114.trans (congrArg some (by kernel_rfl))
  f49 := ⟨Try.f115.name, by decide, Try.func115.trans (congrArg some (by kernel_rfl))⟩
  f50 := ⟨Try.f116.name, by decide, Try.func116.trans (congrArg some (by kernel_rfl))⟩
  f57 := ⟨Try.f117.name, by decide, Try.func117.trans (congrArg some (by kernel_rfl))⟩
  t0 := Try.underlying0
  a0 := Try.isAgg0
  z0 := Try.sizeOf0
  v0 := Try.zeroValue0
  t3 := Try.underlying3
  a3 := Try.isAgg3
  z3 := Try.sizeOf3
  v3 := Try.zeroValue3
  t4 := Try.underlying4
  a4 := Try.isAgg4
  z4 := Try.sizeOf4
  v4 := Try.zeroValue4
  t5 := Try.underlying5
  a5 := Try.isAgg5
  z5 := Try.sizeOf5
  v5 := Try.zeroValue5
  t9 := Try.underlying9
  a9 := Try.isAgg9
  z9 := Try.sizeOf9
  v9 := Try.zeroValue9
  t22 := Try.underlying25
  a22 := Try.isAgg25
  z22 := Try.sizeOf25
  v22 := Try.zeroValue25
  t25 := Try.underlying69
  a25 := Try.isAgg69
  z25 := Try.sizeOf69
  v25 := Try.zeroValue69
  t39 := Try.underlying85
  a39 := Try.isAgg85
  z39 := Try.sizeOf85
  v39 := Try.zeroValue85
  t45 := Try.underlying103
  a45 := Try.isAgg103
  z45 := Try.sizeOf103
  v45 := Try.zeroValue103
  t46 := Try.underlying104
  a46 := Try.isAgg104
  z46 := Try.sizeOf104
  v46 := Try.zeroValue104
  t50 := Try.underlying108
  a50 := Try.isAgg108
  z50 := Try.sizeOf108
  v50 := Try.zeroValue108
  t53 := Try.underlying81
  a53 := Try.isAgg81
  z53 := Try.sizeOf81
  v53 := Try.zeroValue81
  t55 := Try.underlying72
  a55 := Try.isAgg72
  z55 := Try.sizeOf72
  v55 := Try.zeroValue72
  t66 := Try.underlying115
  a66 := Try.isAgg115
  z66 := Try.sizeOf115
  v66 := Try.zeroValue115
  t70 := Try.underlying119
  a70 := Try.isAgg119
  z70 := Try.sizeOf119
  v70 := Try.zeroValue119
  t76 := Try.underlying121
  a76 := Try.isAgg121
  z76 := Try.sizeOf121
  v76 := Try.zeroValue121
  t77 := Try.underlying122
  a77 := Try.isAgg122
  z77 := Try.sizeOf122
  v77 := Try.zeroValue122 }
end Go.Proofs
/- A row of a sum's parts: cloned, and sorted by the variable. -/
namespace Go.Proofs.Ytdicjemjmlbmlaa.H
set_option linter.unusedSimpArgs false
set_option linter.unusedVariables false
open Go.RowKit Go.Sort Go.Proofs.YtdicjemjmlbmlaaW.PrintWords Go.Proofs.YtdicjemjmlbmlaaW.PrintLast Go.Proofs.YtdicjemjmlbmlaaW.PrintMore Go.Proofs.Ytdicjemjmlbmlaa.PA
/-- A part as it lies: its number's limbs lie elsewhere. -/
structure RM where
  v : Int
  ng : Bool
  A : Option Addr
  c : Nat
  xs : List Int
instance : Inhabited RM := ⟨⟨0, false, none, 0, []⟩⟩
def encM (x : RM) : List Value := [.int .i64 x.v, .bool x.ng, .slice x.A x.xs.length x.c]
def toM (x : RM) : S46 := ⟨x.v, ⟨x.ng, x.xs⟩⟩
/-- Cells alone. -/
def kM : Kd RM where
  sz := 3
  E := []
  K := fun _ x cs => cs = encM x
  M := fun _ _ _ x cs => cs = encM x
  K_len := fun h => by rw [h]; rfl
  K_one := fun h u hu => by
    rw [h] at hu
    simp only [encM, List.mem_cons, List.not_mem_nil, or_false] at hu
    rcases hu with rfl | rfl | rfl <;> rfl
  K_below := fun _ h => h
  K_of_M := fun h => h
  M_mono := fun _ h => h
  M_bound := fun h => h
  M_move := fun _ h => h
  M_lower := fun _ h => h
/-- What a part leads to. -/
def Leads (w : World) (x : RM) : Prop := x.xs.length ≤ x.c ∧ Kd.C (Kd.int .u32) w x.A x.xs.length x.xs
theorem Leads.below {w w1 : World} {x : RM} (h : Leads w x) (hb : Below w.heap.size w w1) : Leads w1 x := ⟨h.1, Kd.C_below h.2 hb⟩
theorem k_open {w : World} {x : S46} {cs : List Value} (h : k46.K w x cs) : ∃ r : RM, cs = encM r ∧ toM r = x ∧ Leads w r := by
  obtain ⟨A, c, rfl, hl, hc⟩ := k46_open h
  exact ⟨⟨x.f0, x.f1.f0, A, c, x.f1.f1⟩, rfl, rfl, hl, hc⟩
theorem raws {w : World} {A : Option Addr} {n : Nat} {l : List S46} (h : Kd.C k46 w A n l) : ∃ rs : List RM, rs.map toM = l ∧ Kd.C kM w A n rs ∧ ∀ x ∈ rs, Leads w x := by
  obtain ⟨hl, hn, hc⟩ := h
  by_cases h0 : n = 0
  · subst h0
    obtain rfl := List.eq_nil_of_length_eq_zero hl
    exact ⟨[], rfl, ⟨rfl, Nat.zero_le _, fun h => absurd h (Nat.lt_irrefl 0)⟩, by simp⟩
  obtain ⟨ad, rfl, hcs⟩ := hc (by omega)
  have each : ∀ i, i < n → ∃ r : RM, (some (toM r) = l[i]?) ∧ (∀ j u, (encM r)[j]? = some u → w.cell? (ad.add (i * 3 + j)) = some u) ∧ Leads w r := by
    intro i hi
    obtain ⟨c, _, hk, hcc⟩ := hcs i l[i] (List.getElem?_eq_getElem (by omega))
    obtain ⟨r, rfl, h2, h3⟩ := k_open hk
    exact ⟨r, by rw [h2, List.getElem?_eq_getElem (by omega)], hcc, h3⟩
  obtain ⟨q, hq⟩ := Go.Deep.choose_lt each
  refine ⟨(List.range n).map q, ?_, ⟨by simp, hn, fun _ => ⟨ad, rfl, fun j p hp => ?_⟩⟩, fun x hx => ?_⟩
  · apply List.ext_getElem?
    intro i
    rw [List.getElem?_map, List.getElem?_map]
    by_cases hi : i < n
    · rw [List.getElem?_range hi, Option.map_some, Option.map_some, (hq i hi).1]
    · rw [List.getElem?_eq_none (by simpa using hi), List.getElem?_eq_none (by omega)]; rfl
  · rw [List.getElem?_map] at hp
    obtain ⟨j', hj', rfl⟩ := Option.map_eq_some_iff.1 hp
    obtain ⟨hjl, rfl⟩ := List.getElem?_eq_some_iff.1 hj'
    rw [List.length_range] at hjl
    simp only [List.getElem_range]
    exact ⟨encM (q j), rfl, rfl, (hq j hjl).2.1⟩
  · obtain ⟨j, hj, rfl⟩ := List.mem_map.1 hx
    exact (hq j (List.mem_range.1 hj)).2.2
theorem infoM : (Try.prog.info? 46).map (fun i => (i.zero, i.size, i.bytes)) = some (some (.agg #[.int .i64 0, .bool false, .slice none 0 0]), 3, 40) := by kernel_rfl
set_option maxHeartbeats 1000000 in
set_option maxRecDepth 100000 in
theorem clone_mono (A0 : Option Addr) (c0 : Nat) (rs : List RM) (w : World) (hr0 : Kd.C kM w A0 rs.length rs) (hlen : rs.length ≤ 1000000000000) :
    Calls Try.prog 57 #[.slice A0 rs.length c0] w fun e w' => ∃ v0_ : Value, e = .returned (v0_) ∧ Kd.R kM 46 w' w.heap.size (fun _ => True) v0_ rs ∧ Below w.heap.size w w' := by
  have hu := Try.underlying46
  have HR0 := Aside0.mk hr0
  have HLEN := Aside0.mk hlen
  clear hr0 hlen
  go_enter Try.func57, Try.ntmps57
  cases A0 with
  | none =>
    have h0 : rs = [] := by
      have := HR0.out
      cases rs with
      | nil => rfl
      | cons a t => obtain ⟨ad, e, _⟩ := this.2.2 (by simp); cases e
    subst h0
    have he : ∀ W : World, (binOp .eql 25 (.slice none 0 c0) (.slice none 0 0)).run Try.prog W = .ok (.bool true) W := fun W => Lib.run_eql_slice_nil W _ _ none _ _ _ _ Try.underlying25
    go_wp2
    go_ret
    exact ⟨_, rfl, Kd.R_nil _ _ _ _ _, by repeat first | exact Below.refl _ _ | apply below_drew1⟩
  | some ad =>
    have he : ∀ W : World, (binOp .eql 25 (.slice (some ad) rs.length c0) (.slice none 0 0)).run Try.prog W = .ok (.bool false) W := fun W => Lib.run_eql_slice_nil W _ _ (some ad) _ _ _ _ Try.underlying25
    go_wp2_with (first
      | ((with_reducible refine gate_dst (N := 5) rfl ?_); refine Kd.R_lit kM _ 46 ?hg (N := 5) ?hd (xs := ([] : List RM)) (inner := []) (ok := fun _ => True) (okp := fun _ => True) ?hr ?hp (fun _ hk => hk) trivial (Below.refl _ _) (Nat.le_refl _) (by simp) ?_; (case hd => rfl); (case hg => rfl); (case hr => first | (go_simp; done) | (go_simp; rfl)); (case hp => exact Reps.none _ _); intro v5 w5 ho hb5 hg_ hnew_; have HO := Aside0.mk ho; have HB := Aside0.mk hb5; clear ho hb5)
      | ((with_reducible refine gate_builtin (b := .append) (xs := #[.tmp 5, .tmp 6]) rfl ?_); at_builtin; refine Kd.R_append_rows kM (w0 := w) w.heap.size rfl (.tmp 5) (.tmp 6) 25 46 (.agg #[.int .i64 0, .bool false, .slice none 0 0]) 40 rfl Try.underlying25 infoM rfl (by decide) (by omega) v5 [] rs _ _ _ (fun _ => True) (fun _ => False) rfl rfl ?aO ?aR (fun _ _ h => h) (fun _ h => h.elim) (fun _ _ => trivial) ?aB ?aS ?aL ?_; (case aO => exact HO.out); (case aR => exact Kd.C_below HR0.out HB.out); (case aB => exact HB.out); (case aS => exact below_size HB.out); (case aL => have := HLEN.out; simp only [List.length_nil]; omega); intro v7 w7 ho7 hb7 hg7 hat7))
    go_ret
    exact ⟨v7, rfl, ho7, hb7⟩
/-! ### the sort -/
def cfM (x y : RM) : Int := if x.v < y.v then -1 else if x.v > y.v then 1 else 0
theorem ltM (x y : RM) : ltOf cfM x y = decide (x.v < y.v) := by
  unfold ltOf cfM
  by_cases h1 : x.v < y.v
  · simp [h1]
  · by_cases h2 : x.v > y.v <;> simp [h1, h2]
theorem swoM : SWO (ltOf cfM) where
  irrefl x := by rw [ltM]; simp
  trans x y z h1 h2 := by rw [ltM] at *; simp at *; omega
  ntrans x y z h1 h2 := by rw [ltM] at *; simp at *; omega
set_option maxHeartbeats 1000000 in
theorem clo_cmp (x y : RM) (W : World) : Calls Try.prog 59 #[.agg (encM x).toArray, .agg (encM y).toArray] W fun e w' => e = .returned (.int .i64 (cfM x y)) ∧ ∃ q os', w' = grow (W.drewN q) os' := by
  unfold encM cfM
  by_cases h1 : x.v < y.v
  · have c1 : decide (x.v < y.v) = true := decide_eq_true h1
    rw [if_pos h1]
    go_enter Try.func59, Try.ntmps59
    go_wp2
    go_ret
    exact ⟨rfl, 0, _, by rw [alloc_eq_grow, alloc_eq_grow, grow_grow]; rfl⟩
  · have c1 : decide (x.v < y.v) = false := decide_eq_false h1
    rw [if_neg h1]
    by_cases h2 : x.v > y.v
    · have c2 : decide (y.v < x.v) = true := decide_eq_true h2
      rw [if_pos h2]
      go_enter Try.func59, Try.ntmps59
      go_wp2
      go_ret
      exact ⟨rfl, 0, _, by rw [alloc_eq_grow, alloc_eq_grow, grow_grow]; rfl⟩
    · have c2 : decide (y.v < x.v) = false := decide_eq_false h2
      rw [if_neg h2]
      go_enter Try.func59, Try.ntmps59
      go_wp2
      go_ret
      exact ⟨rfl, 0, _, by rw [alloc_eq_grow, alloc_eq_grow, grow_grow]; rfl⟩
end Go.Proofs.Ytdicjemjmlbmlaa.H
/- slices.SortFunc of a row of parts of the call's own. -/
namespace Go.Proofs.Ytdicjemjmlbmlaa.H
set_option linter.unusedSimpArgs false
set_option linter.unusedVariables false
open Go.RowKit Go.Sort Go.Proofs.YtdicjemjmlbmlaaW.PrintWords Go.Proofs.YtdicjemjmlbmlaaW.PrintLast Go.Proofs.YtdicjemjmlbmlaaW.PrintMore Go.Proofs.Ytdicjemjmlbmlaa.PA
theorem flat_len (rs : List RM) : (rs.flatMap encM).length = rs.length * 3 := by
  induction rs with
  | nil => rfl
  | cons x r ih => rw [List.flatMap_cons, List.length_append, ih, List.length_cons, show (encM x).length = 3 from rfl]; omega
theorem flat_get : ∀ (rs : List RM) (t : Nat), (rs.flatMap encM)[t]? = (rs[t / 3]?).bind (fun x => (encM x)[t % 3]?)
  | [], t => by simp
  | x :: r, t => by
    rw [List.flatMap_cons]
    by_cases h : t < 3
    · rw [List.getElem?_append_left (by exact h), Nat.div_eq_of_lt h, Nat.mod_eq_of_lt h]; rfl
    · rw [List.getElem?_append_right (by show 3 ≤ t; omega), show (encM x).length = 3 from rfl, flat_get r (t - 3), show t / 3 = (t - 3) / 3 + 1 by omega, show (t - 3) % 3 = t % 3 by omega]
      rfl
theorem flatK_list (rs : List RM) : (flatK encM 3 rs.toArray).toList = rs.flatMap encM := by
  apply List.ext_getElem?
  intro t
  by_cases h : t < rs.length * 3
  · have h1 : (flatK encM 3 rs.toArray)[t]! = (encM rs.toArray[t / 3]!)[t % 3]! := get_flatK _ _ _ t (by simpa using h)
    have hs : t < (flatK encM 3 rs.toArray).size := by simpa using h
    have h3 : t / 3 < rs.length := by omega
    rw [getElem!_pos (flatK encM 3 rs.toArray) t hs] at h1
    rw [Array.getElem?_toList, Array.getElem?_eq_getElem hs, h1, flat_get, List.getElem?_eq_getElem h3]
    have e : rs.toArray[t / 3]! = rs[t / 3] := by rw [getElem!_pos rs.toArray (t / 3) (by simpa using h3)]; simp
    rw [e]
    have hm : t % 3 < (encM rs[t / 3]).length := by show t % 3 < 3; omega
    rw [getElem!_pos (encM rs[t / 3]) (t % 3) hm, Option.bind_some, List.getElem?_eq_getElem hm]
  · rw [List.getElem?_eq_none (by simpa using h), List.getElem?_eq_none (by rw [flat_len]; omega)]
theorem reps3 : ∀ (xs : List RM) {w : World} {base : Nat} {ok : Nat → Prop} (inner : List Value), Reps (kM.M w base ok) 3 xs inner → inner = xs.flatMap encM
  | [], w, base, ok, inner, h => List.eq_nil_of_length_eq_zero (by rw [h.1]; rfl)
  | x :: r, w, base, ok, inner, h => by
    have h1 := h.2 0 x rfl
    rw [Nat.zero_mul, List.drop_zero] at h1
    have h1 : inner.take 3 = encM x := h1
    have h2 := Kd.reps_drop (m := 1) h
    rw [List.drop_succ_cons, List.drop_zero, Nat.one_mul] at h2
    have h3 := reps3 r _ h2
    rw [List.flatMap_cons, ← h1, ← h3, List.take_append_drop]
theorem reps3_mk (w : World) (base : Nat) (ok : Nat → Prop) (xs : List RM) : Reps (kM.M w base ok) 3 xs (xs.flatMap encM) := by
  refine ⟨flat_len xs, fun j p hj => ?_⟩
  show ((xs.flatMap encM).drop (j * 3)).take 3 = encM p
  apply List.ext_getElem?
  intro t
  by_cases h : t < 3
  · rw [List.getElem?_take_of_lt h, List.getElem?_drop, flat_get, show (j * 3 + t) / 3 = j by omega, show (j * 3 + t) % 3 = t by omega, hj]; rfl
  · rw [List.getElem?_eq_none (by rw [List.length_take]; omega), List.getElem?_eq_none (by show 3 ≤ t; omega)]
theorem R3_own {w : World} {base e : Nat} {ok : Nat → Prop} {v : Value} {xs : List RM} (h : Kd.R kM e w base ok v xs) : w.ownsRow base e 3 v xs.length (xs.flatMap encM) := by
  obtain ⟨_, inner, ho, hr⟩ := h
  rw [reps3 xs inner hr] at ho
  exact ho
theorem R3_of {w : World} {base e : Nat} {v : Value} {xs : List RM} (h : w.ownsRow base e 3 v xs.length (xs.flatMap encM)) : Kd.R kM e w base (fun _ => True) v xs :=
  ⟨fun _ _ => trivial, _, h, reps3_mk _ _ _ _⟩
/-! ### the worlds behind the sort -/
theorem heap_sortedV {w : World} {g n : Nat} {os : Array Obj} {cur : Array Value} {e : TypeId} {fr : Nat × Nat} (d : Array Value) (hb : w.heap[g]? = some (.cells cur e fr)) :
    (grow (putRow id (Sort.ahead w n) g 0 d) os).heap[g]? = some (.cells (putCells id 0 d cur) e fr) := by
  have hg : g < w.heap.size := (Array.getElem?_eq_some_iff.1 hb).1
  rw [heap_grow_old _ _ (by simpa using hg)]
  simp [putRow, mapBlock, Sort.ahead, Array.getElem?_modify, hb, onCells]
theorem grownBy_sortedV {w : World} {g n : Nat} {os : Array Obj} (d : Array Value) : w.grownBy (grow (putRow id (Sort.ahead w n) g 0 d) os) (some g) := by
  refine ⟨rfl, rfl, rfl, by simp, fun k hk hne => ?_⟩
  rw [heap_grow_old _ _ (by simpa using hk)]
  have : g ≠ k := fun e => hne (by rw [e])
  simp [putRow, mapBlock, Sort.ahead, Array.getElem?_modify, this]
theorem take_putCellsV (cur : Array Value) (d : Array Value) (h : d.size ≤ cur.size) : (putCells id 0 d cur).toList.take d.size = d.toList := by
  apply List.ext_getElem?
  intro j
  by_cases hj : j < d.size
  · rw [List.getElem?_take_of_lt hj, Array.getElem?_toList]
    simp [putCells, hj, show j < cur.size by omega]
  · rw [List.getElem?_eq_none (by rw [List.length_take]; omega), List.getElem?_eq_none (by simpa using hj)]
set_option maxHeartbeats 1000000 in
theorem sort_mono (base : Nat) (v : Value) (rs : List RM) (w : World) (h : Kd.R kM 46 w base (fun _ => True) v rs) (hlen : rs.length ≤ 1000000000) :
    Calls Try.prog 58 #[v, .func (.func 59) #[] #[]] w fun e w' => e = .returned (.tuple #[]) ∧ ∃ ts : List RM, ts.Perm rs ∧ ts.Pairwise (fun x y => x.v ≤ y.v) ∧ Kd.R kM 46 w' base (fun _ => True) v ts ∧ w.grownBy w' v.ownBlock := by
  have ho := R3_own h
  obtain ⟨hl0, ⟨hv, hn⟩ | ⟨g, cap, cur, hv, hbase, hb, h1, h2, h3, h4⟩⟩ := id ho
  · have hr : rs = [] := List.eq_nil_of_length_eq_zero hn
    subst hr
    subst hv
    have := AnyF.slices_SortFunc_none Try.sortMono none 0 (.func (.func 59) #[] #[]) w
    refine this.mono ?_
    rintro e w' ⟨rfl, rfl⟩
    exact ⟨rfl, [], .nil, List.Pairwise.nil, Kd.R_nil _ _ _ _ _, World.grownBy.mk rfl rfl rfl (Nat.le_refl _) (fun _ _ _ => rfl)⟩
  · subst hv
    have hg : g < w.heap.size := (Array.getElem?_eq_some_iff.1 hb).1
    have hH : HoldsK encM 3 w g 0 rs.toArray := by
      intro j hj
      rw [size_flatK] at hj
      have hj' : j < rs.length * 3 := by simpa using hj
      refine ⟨?_, by simp [World.frozen?, hb]⟩
      have hs : j < (flatK encM 3 rs.toArray).size := by simpa using hj'
      have e1 : (cur.toList.take (rs.length * 3))[j]? = (rs.flatMap encM)[j]? := by rw [h4]
      rw [List.getElem?_take_of_lt hj', ← flatK_list, Array.getElem?_toList, Array.getElem?_toList, Array.getElem?_eq_getElem hs] at e1
      simp only [World.cell?, hb, Nat.zero_add]
      simp only [Option.isSome_none, Bool.false_eq_true, if_false]
      rw [e1, getElem!_pos (flatK encM 3 rs.toArray) j hs]; rfl
    have eg : ∀ args w, (callFunc 59 args).run Try.prog w = .ok (.enter 59 args) w := enters_of Try.func59 (by kernel_rfl) rfl
    have hcon := AnyQ.slices_SortFunc Try.sortMono 3 Try.isAgg46 Try.sizeOf46 encM (fun _ => rfl) (fun x v hv => kM.K_one (w := w) (x := x) rfl v hv) cfM swoM 59 #[] g 0 cap rs.toArray w eg (fun _ _ _ _ x y => clo_cmp x y _) hH hg (by simp; omega)
    have e2 : rs.toArray.size = rs.length := by simp
    rw [e2] at hcon
    refine hcon.mono ?_
    rintro e w' ⟨rfl, d', n, os, hp, hs, rfl⟩
    obtain ⟨hp1, _, hp3⟩ := hp
    have hsz : d'.size = rs.length := by rw [hp1]; simp
    have hx : d'.extract 0 rs.length = d' := by rw [← hsz]; simp
    have hperm : d'.toList.Perm rs := by
      have := hp3
      rw [hx, show rs.toArray.extract 0 rs.length = rs.toArray by simp] at this
      exact this
    have hd : d' = d'.toList.toArray := by simp
    refine ⟨rfl, d'.toList, hperm, ?_, ?_, grownBy_sortedV _⟩
    · rw [List.pairwise_iff_getElem]
      intro i j hi hj hij
      have hi' : i < d'.size := by simpa using hi
      have hj' : j < d'.size := by simpa using hj
      have := hs i j (Nat.zero_le _) hij (by omega)
      rw [ltM, getElem!_pos d' j hj', getElem!_pos d' i hi'] at this
      have := of_decide_eq_false this
      simp only [Array.getElem_toList]; omega
    · have hl2 : d'.toList.length = rs.length := by simpa using hsz
      have hcs : cur.size = cap * 3 := h3
      have hrow : (sortWorldK encM 3 w g 0 n d' os).ownsRow base 46 3 (.slice (some ⟨g, 0, none⟩) d'.toList.length cap) d'.toList.length (d'.toList.flatMap encM) := by
        refine ⟨flat_len _, .inr ⟨g, cap, _, rfl, hbase, heap_sortedV _ hb, by omega, h2, by simp [putCells, hcs], ?_⟩⟩
        have e3 : (flatK encM 3 d').size = d'.toList.length * 3 := by simp
        have := take_putCellsV cur (flatK encM 3 d') (by rw [e3, hl2, hcs]; omega)
        rw [e3] at this
        rw [this, ← flatK_list]
      have := R3_of hrow
      rw [hl2] at this
      exact this
end Go.Proofs.Ytdicjemjmlbmlaa.H
/- Parts that the call has made, in a row of its own. -/
namespace Go.Proofs.Ytdicjemjmlbmlaa.H
set_option linter.unusedSimpArgs false
set_option linter.unusedVariables false
open Go.RowKit Go.Proofs.YtdicjemjmlbmlaaW.PrintWords Go.Proofs.YtdicjemjmlbmlaaW.PrintLast Go.Proofs.YtdicjemjmlbmlaaW.PrintMore Go.Proofs.Ytdicjemjmlbmlaa.PA
def blkM (x : RM) : Option Nat := (Value.slice x.A x.xs.length x.c).ownBlock
/-- A part's limbs lie in a row of the call's own. -/
def OwnK (w : World) (base : Nat) (x : RM) : Prop := Kd.R (Kd.int .u32) 81 w base (fun _ => True) (.slice x.A x.xs.length x.c) x.xs
theorem OwnK.move {w w1 : World} {base : Nat} {x : RM} (h : OwnK w base x) (hm : ∀ (k : Nat) (cells : Array Value), w.heap[k]? = some (Obj.cells cells 81 (0, 0)) → w1.heap[k]? = w.heap[k]?) : OwnK w1 base x := by
  have h1 := Kd.R_bound h
  refine Kd.R_mono (Kd.R_move h1 (fun k hk => ?_)) (fun _ _ => trivial)
  obtain ⟨_, _, _, q, hq, cells, hc⟩ := hk
  have : q = 81 := by
    rcases List.mem_cons.1 hq with h | h
    · exact h
    · cases h
  subst this
  exact hm k cells hc
theorem OwnK.below {w w1 : World} {base : Nat} {x : RM} (h : OwnK w base x) (hb : Below w.heap.size w w1) : OwnK w1 base x := Kd.R_below h hb
theorem OwnK.lt {w : World} {base : Nat} {x : RM} (h : OwnK w base x) (k : Nat) (hk : blkM x = some k) : base ≤ k ∧ k < w.heap.size := ⟨Kd.R_base h k hk, Kd.R_lt h k hk⟩
theorem OwnK.leads {w : World} {base : Nat} {x : RM} (h : OwnK w base x) : Leads w x := ⟨(Kd.R_reads' h).2.1, (Kd.R_reads' h).2.2⟩
theorem OwnK.ok {w : World} {base : Nat} {x : RM} {ok : Nat → Prop} (h : OwnK w base x) (hok : ∀ k, blkM x = some k → ok k) : Kd.R (Kd.int .u32) 81 w base ok (.slice x.A x.xs.length x.c) x.xs := Kd.R_reok rfl h hok
theorem keeps_grown {w w1 : World} {v : Value} {e : Nat} (hg : w.grownBy w1 v.ownBlock) (ht : ∀ k, v.ownBlock = some k → ∃ cells : Array Value, w.heap[k]? = some (Obj.cells cells e (0, 0))) (he : e ≠ 81) : ∀ (k : Nat) (cells : Array Value), w.heap[k]? = some (Obj.cells cells 81 (0, 0)) → w1.heap[k]? = w.heap[k]? := by
  intro k cells hk
  refine hg.block k (Array.getElem?_eq_some_iff.1 hk).1 (fun e2 => ?_)
  obtain ⟨cs, hc⟩ := ht k e2.symm
  rw [hc] at hk
  injection hk with hk
  injection hk with _ hk
  exact he hk
theorem mono_M {w : World} {base : Nat} {ok : Nat → Prop} {x : RM} (h : Kd.R (Kd.int .u32) 81 w base ok (.slice x.A x.xs.length x.c) x.xs) : k46.M w base ok (toM x) (encM x) := k46_mkM w base ok (toM x) h
theorem set3_other (W : World) (g a b c : Nat) (u v t : Value) (k : Nat) (h : k ≠ g) : (((W.setCell ⟨g, a, none⟩ u).setCell ⟨g, b, none⟩ v).setCell ⟨g, c, none⟩ t).heap[k]? = W.heap[k]? :=
  (Below.heap_setCell _ _ _ k h).trans ((Below.heap_setCell _ _ _ k h).trans (Below.heap_setCell _ _ _ k h))
theorem box_ne {W : World} {g k t t' : Nat} {cs cs' : Array Value} (hg : W.heap[g]? = some (Obj.cells cs t (0, 0))) (hk : W.heap[k]? = some (Obj.cells cs' t' (0, 0))) (ht : t ≠ t') : k ≠ g := by
  intro e
  subst e
  rw [hg] at hk
  injection hk with hk
  injection hk with _ hk
  exact ht hk
/-- A row of cells through what leaves its block. -/
theorem kM_move {w w1 : World} {base : Nat} {u : Value} {xs : List RM} (h : Kd.R kM 46 w base (fun _ => True) u xs) (hm : ∀ (k : Nat) (cells : Array Value), w.heap[k]? = some (Obj.cells cells 46 (0, 0)) → w1.heap[k]? = w.heap[k]?) : Kd.R kM 46 w1 base (fun _ => True) u xs := by
  have h1 := Kd.R_bound h
  refine Kd.R_mono (Kd.R_move h1 (fun k hk => ?_)) (fun _ _ => trivial)
  obtain ⟨_, _, _, q, hq, cells, hc⟩ := hk
  have : q = 46 := by
    rcases List.mem_cons.1 hq with h | h
    · exact h
    · cases h
  subst this
  exact hm k cells hc
theorem OwnK.lower {w : World} {base base' : Nat} {x : RM} (h : OwnK w base x) (hb : base' ≤ base) : OwnK w base' x := Kd.R_lower h hb
def Apart (rs : List RM) : Prop := rs.Pairwise (fun x y => ∀ k, blkM x = some k → blkM y ≠ some k)
theorem apart_snoc {rs : List RM} {x : RM} (h : Apart rs) (hx : ∀ y ∈ rs, ∀ k, blkM y = some k → blkM x ≠ some k) : Apart (rs ++ [x]) := by
  unfold Apart at *
  rw [List.pairwise_append]
  exact ⟨h, List.pairwise_singleton _ _, fun a ha b hb => by rw [List.mem_singleton.1 hb]; exact hx a ha⟩
/-- Whose block is it. -/
def owner : List RM → Nat → Nat
  | [], _ => 0
  | x :: r, k => if blkM x = some k then 0 else owner r k + 1
theorem owner_at : ∀ (rs : List RM) (j : Nat) (x : RM) (k : Nat), Apart rs → rs[j]? = some x → blkM x = some k → owner rs k = j
  | [], j, x, k, _, h, _ => by simp at h
  | y :: r, 0, x, k, _, h, hk => by
    obtain rfl := Option.some.inj h
    unfold owner; rw [if_pos hk]
  | y :: r, j + 1, x, k, ha, h, hk => by
    have h' : r[j]? = some x := h
    have ha' := List.pairwise_cons.1 ha
    have hx : x ∈ r := List.mem_of_getElem? h'
    unfold owner
    rw [if_neg (fun e => ha'.1 x hx k e hk), owner_at r j x k ha'.2 h' hk]
theorem S_of_outs {w : World} {base : Nat} {u : Value} {rs : List RM} {ok : Nat → Prop} (hr : Kd.R kM 46 w base (fun _ => True) u rs) (ho : ∀ x ∈ rs, OwnK w base x) (ha : Apart rs) (h0 : ∀ k, u.ownBlock = some k → ok k) (h1 : ∀ x ∈ rs, ∀ k, blkM x = some k → ok k) :
    Kd.S k46 46 w base ok u (rs.map toM) := by
  have hl : (rs.map toM).zipIdx.length = rs.length := by simp
  have hty := Kd.R_typed hr
  have hown := R3_own hr
  refine ⟨owner rs, h0, rs.flatMap encM, by rw [hl]; exact hown, by rw [hl]; exact flat_len rs, fun j p hj => ?_⟩
  rw [List.getElem?_zipIdx, Nat.zero_add] at hj
  obtain ⟨m, hm, rfl⟩ := Option.map_eq_some_iff.1 hj
  rw [List.getElem?_map] at hm
  obtain ⟨x, hx, rfl⟩ := Option.map_eq_some_iff.1 hm
  have hmem := List.mem_of_getElem? hx
  have hcs : ((rs.flatMap encM).drop (j * 3)).take 3 = encM x := (reps3_mk w base (fun _ => True) rs).2 j x hx
  show k46.M w base _ (toM x) (((rs.flatMap encM).drop (j * 3)).take 3)
  rw [hcs]
  refine mono_M ((ho x hmem).ok (fun k hk => ⟨⟨h1 x hmem k hk, fun e => ?_⟩, owner_at rs j x k ha hx hk⟩))
  obtain ⟨c1, hc1⟩ := hty k e.symm
  obtain ⟨c2, hc2⟩ := Kd.R_typed (ho x hmem) k hk
  rw [hc1] at hc2
  injection hc2 with hc2
  injection hc2 with _ hc2
  exact absurd hc2 (by decide)
end Go.Proofs.Ytdicjemjmlbmlaa.H
/- Sums as lists of variables and numbers: their own form. -/
namespace Go.Proofs.Ytdicjemjmlbmlaa.S
set_option linter.unusedVariables false
set_option linter.unusedSimpArgs false
/-- A number more of a variable. -/
def ins (v s : Int) : List (Int × Int) → List (Int × Int)
  | [] => if s = 0 then [] else [(v, s)]
  | (u, t) :: r => if v < u then (if s = 0 then (u, t) :: r else (v, s) :: (u, t) :: r) else if v = u then (if t + s = 0 then r else (u, t + s) :: r) else (u, t) :: ins v s r
/-- A sum's own form. -/
def normP (p : List (Int × Int)) : List (Int × Int) := p.foldl (fun a q => ins q.1 q.2 a) []
/-- How often a sum has a variable. -/
def coef : List (Int × Int) → Int → Int
  | [], _ => 0
  | q :: r, v => (if q.1 = v then q.2 else 0) + coef r v
/-- Variables rise, none is taken no times. -/
def Form : List (Int × Int) → Prop
  | [] => True
  | q :: r => q.2 ≠ 0 ∧ (∀ x ∈ r, q.1 < x.1) ∧ Form r
theorem coef_append : ∀ (a b : List (Int × Int)) (v : Int), coef (a ++ b) v = coef a v + coef b v
  | [], b, v => by simp [coef]
  | q :: r, b, v => by simp only [List.cons_append, coef, coef_append r b v]; omega
theorem coef_none : ∀ (p : List (Int × Int)) (v : Int), (∀ x ∈ p, x.1 ≠ v) → coef p v = 0
  | [], _, _ => rfl
  | q :: r, v, h => by
    have h1 := coef_none r v (fun x hx => h x (List.mem_cons_of_mem _ hx))
    simp only [coef]
    rw [if_neg (h q List.mem_cons_self), h1]; rfl
theorem ins_mem (v s : Int) : ∀ (p : List (Int × Int)) (x : Int × Int), x ∈ ins v s p → x.1 = v ∨ ∃ y ∈ p, y.1 = x.1
  | [], x, h => by
    unfold ins at h
    split at h
    · cases h
    · rw [List.mem_singleton.1 h]; exact .inl rfl
  | (u, t) :: r, x, h => by
    unfold ins at h
    split at h
    · split at h
      · exact .inr ⟨x, h, rfl⟩
      · rcases List.mem_cons.1 h with rfl | h
        · exact .inl rfl
        · exact .inr ⟨x, h, rfl⟩
    · split at h
      · split at h
        · exact .inr ⟨x, List.mem_cons_of_mem _ h, rfl⟩
        · rcases List.mem_cons.1 h with rfl | h
          · exact .inr ⟨(u, t), List.mem_cons_self, rfl⟩
          · exact .inr ⟨x, List.mem_cons_of_mem _ h, rfl⟩
      · rcases List.mem_cons.1 h with rfl | h
        · exact .inr ⟨(u, t), List.mem_cons_self, rfl⟩
        · rcases ins_mem v s r x h with h | ⟨y, hy, e⟩
          · exact .inl h
          · exact .inr ⟨y, List.mem_cons_of_mem _ hy, e⟩
theorem form_ins (v s : Int) : ∀ p : List (Int × Int), Form p → Form (ins v s p)
  | [], _ => by
    unfold ins
    split
    · trivial
    · exact ⟨by assumption, by simp, trivial⟩
  | (u, t) :: r, h => by
    obtain ⟨h1, h2, h3⟩ := h
    unfold ins
    split
    · split
      · exact ⟨h1, h2, h3⟩
      · refine ⟨by assumption, fun x hx => ?_, h1, h2, h3⟩
        rcases List.mem_cons.1 hx with rfl | hx
        · assumption
        · have := h2 x hx; simp only at *; omega
    · split
      · split
        · exact h3
        · exact ⟨by assumption, h2, h3⟩
      · refine ⟨h1, fun x hx => ?_, form_ins v s r h3⟩
        rcases ins_mem v s r x hx with h | ⟨y, hy, e⟩
        · simp only at *; omega
        · have := h2 y hy; simp only at *; omega
theorem coef_ins (v s : Int) : ∀ (p : List (Int × Int)) (w : Int), coef (ins v s p) w = coef p w + if v = w then s else 0
  | [], w => by
    unfold ins
    split
    · rename_i h; simp [coef, h]
    · simp [coef]
  | (u, t) :: r, w => by
    unfold ins
    split
    · split
      · rename_i h; simp [h]
      · simp only [coef]; omega
    · split
      · rename_i h; subst h
        split
        · rename_i h; simp only [coef]; split <;> omega
        · simp only [coef]; split <;> omega
      · simp only [coef, coef_ins v s r w]; omega
theorem form_lt {q : Int × Int} {r : List (Int × Int)} (h : Form (q :: r)) (v : Int) (hv : v ≤ q.1) : coef r v = 0 :=
  coef_none r v (fun x hx => by have := h.2.1 x hx; omega)
theorem form_unique : ∀ (p q : List (Int × Int)), Form p → Form q → (∀ v, coef p v = coef q v) → p = q
  | [], [], _, _, _ => rfl
  | [], y :: r, _, hq, h => by
    have h1 := h y.1
    have h2 := form_lt hq y.1 (Int.le_refl _)
    simp only [coef, if_true] at h1
    exact absurd (by omega) hq.1
  | x :: r, [], hp, _, h => by
    have h1 := h x.1
    have h2 := form_lt hp x.1 (Int.le_refl _)
    simp only [coef, if_true] at h1
    exact absurd (by omega) hp.1
  | x :: r, y :: t, hp, hq, h => by
    have e1 : x.1 = y.1 := by
      rcases Int.lt_trichotomy x.1 y.1 with hl | he | hl
      · have h1 := h x.1
        have h2 := form_lt hp x.1 (Int.le_refl _)
        have h3 := form_lt hq x.1 (by omega)
        simp only [coef, if_true] at h1
        rw [if_neg (by omega)] at h1
        exact absurd (by omega) hp.1
      · exact he
      · have h1 := h y.1
        have h2 := form_lt hq y.1 (Int.le_refl _)
        have h3 := form_lt hp y.1 (by omega)
        simp only [coef, if_true] at h1
        rw [if_neg (by omega)] at h1
        exact absurd (by omega) hq.1
    have e2 : x.2 = y.2 := by
      have h1 := h x.1
      have h2 := form_lt hp x.1 (Int.le_refl _)
      have h3 := form_lt hq x.1 (by omega)
      simp only [coef, if_true] at h1
      rw [if_pos e1.symm] at h1
      omega
    have e3 : r = t := form_unique r t hp.2.2 hq.2.2 (fun v => by
      have h1 := h v
      simp only [coef, e1, e2] at h1
      omega)
    rw [e3]
    congr 1
    exact Prod.ext e1 e2
theorem norm_fold : ∀ (p a : List (Int × Int)), Form a → Form (p.foldl (fun a q => ins q.1 q.2 a) a) ∧ ∀ v, coef (p.foldl (fun a q => ins q.1 q.2 a) a) v = coef a v + coef p v
  | [], a, h => ⟨h, fun v => by simp [coef]⟩
  | q :: r, a, h => by
    obtain ⟨h1, h2⟩ := norm_fold r (ins q.1 q.2 a) (form_ins _ _ _ h)
    refine ⟨h1, fun v => ?_⟩
    rw [List.foldl_cons, h2, coef_ins]
    simp only [coef]; omega
theorem form_norm (p : List (Int × Int)) : Form (normP p) := (norm_fold p [] trivial).1
theorem coef_norm (p : List (Int × Int)) (v : Int) : coef (normP p) v = coef p v := by rw [normP, (norm_fold p [] trivial).2]; simp [coef]
/-- The own form is told by the numbers of each variable. -/
theorem norm_of {p q : List (Int × Int)} (h : ∀ v, coef p v = coef q v) : normP p = normP q := form_unique _ _ (form_norm p) (form_norm q) (fun v => by rw [coef_norm, coef_norm, h])
theorem coef_perm {p q : List (Int × Int)} (h : p.Perm q) (v : Int) : coef p v = coef q v := by
  induction h with
  | nil => rfl
  | cons x _ ih => simp only [coef, ih]
  | swap x y l => simp only [coef]; omega
  | trans _ _ ih1 ih2 => rw [ih1, ih2]
theorem norm_perm {p q : List (Int × Int)} (h : p.Perm q) : normP p = normP q := norm_of (coef_perm h)
/-! ### behind what is less -/
def onev (v s : Int) : List (Int × Int) := if s = 0 then [] else [(v, s)]
theorem ins_behind (v t s : Int) : ∀ a : List (Int × Int), (∀ x ∈ a, x.1 < v) → ins v t (a ++ onev v s) = a ++ onev v (s + t)
  | [], _ => by
    unfold onev
    rw [List.nil_append, List.nil_append]
    by_cases h : s = 0
    · rw [if_pos h]; subst h; rw [Int.zero_add]; rfl
    · rw [if_neg h]
      unfold ins
      rw [if_neg (Int.lt_irrefl _), if_pos rfl]
  | (u, w) :: r, h => by
    have h1 := h (u, w) List.mem_cons_self
    simp only at h1
    rw [List.cons_append]
    show ins v t ((u, w) :: (r ++ onev v s)) = _
    unfold ins
    rw [if_neg (by omega), if_neg (by omega), ins_behind v t s r (fun x hx => h x (List.mem_cons_of_mem _ hx))]
    rfl
theorem fold_mem : ∀ (p a : List (Int × Int)) (x : Int × Int), x ∈ p.foldl (fun a q => ins q.1 q.2 a) a → (∃ y ∈ p, y.1 = x.1) ∨ ∃ y ∈ a, y.1 = x.1
  | [], a, x, h => .inr ⟨x, h, rfl⟩
  | q :: r, a, x, h => by
    rcases fold_mem r (ins q.1 q.2 a) x h with ⟨y, hy, e⟩ | ⟨y, hy, e⟩
    · exact .inl ⟨y, List.mem_cons_of_mem _ hy, e⟩
    · rcases ins_mem _ _ _ y hy with h | ⟨z, hz, e2⟩
      · exact .inl ⟨q, List.mem_cons_self, by omega⟩
      · exact .inr ⟨z, hz, by omega⟩
theorem mem_norm {p : List (Int × Int)} {x : Int × Int} (h : x ∈ normP p) : ∃ y ∈ p, y.1 = x.1 := by
  rcases fold_mem p [] x h with h | ⟨y, hy, _⟩
  · exact h
  · cases hy
theorem ins_len (v s : Int) : ∀ p : List (Int × Int), (ins v s p).length ≤ p.length + 1
  | [] => by unfold ins; split <;> simp
  | (u, t) :: r => by
    have := ins_len v s r
    unfold ins
    split
    · split <;> simp
    · split
      · split
        · simp only [List.length_cons]; omega
        · simp only [List.length_cons]; omega
      · simp only [List.length_cons]; omega
theorem fold_len : ∀ p a : List (Int × Int), (p.foldl (fun a q => ins q.1 q.2 a) a).length ≤ p.length + a.length
  | [], a => by simp
  | q :: r, a => by
    have h1 := fold_len r (ins q.1 q.2 a)
    have h2 := ins_len q.1 q.2 a
    simp only [List.foldl_cons, List.length_cons]; omega
theorem norm_len (p : List (Int × Int)) : (normP p).length ≤ p.length := by
  have := fold_len p []
  simpa [normP] using this
end Go.Proofs.Ytdicjemjmlbmlaa.S
/- Numbers by limbs: what a list of limbs is worth, and its own form. -/
namespace Go.Proofs.Ytdicjemjmlbmlaa.V
set_option linter.unusedVariables false
set_option linter.unusedSimpArgs false

/-- What limbs are worth. -/
def val : List Int → Int
  | [] => 0
  | x :: r => x + 4294967296 * val r
/-- Limbs of 32 bits. -/
def Lim (l : List Int) : Prop := ∀ x ∈ l, 0 ≤ x ∧ x < 4294967296
theorem Lim.nil : Lim [] := fun _ h => by cases h
theorem Lim.cons {x : Int} {l : List Int} (h0 : 0 ≤ x) (h1 : x < 4294967296) (h : Lim l) : Lim (x :: l) := fun y hy => by
  rcases List.mem_cons.1 hy with rfl | hy
  · exact ⟨h0, h1⟩
  · exact h y hy
theorem Lim.head {x : Int} {l : List Int} (h : Lim (x :: l)) : 0 ≤ x ∧ x < 4294967296 := h x List.mem_cons_self
theorem Lim.tail {x : Int} {l : List Int} (h : Lim (x :: l)) : Lim l := fun y hy => h y (List.mem_cons_of_mem _ hy)
theorem Lim.append {a b : List Int} (ha : Lim a) (hb : Lim b) : Lim (a ++ b) := fun y hy => by
  rcases List.mem_append.1 hy with hy | hy
  · exact ha y hy
  · exact hb y hy
theorem Lim.left {a b : List Int} (h : Lim (a ++ b)) : Lim a := fun y hy => h y (List.mem_append_left _ hy)
theorem Lim.right {a b : List Int} (h : Lim (a ++ b)) : Lim b := fun y hy => h y (List.mem_append_right _ hy)
theorem Lim.take {a : List Int} (n : Nat) (h : Lim a) : Lim (a.take n) := fun y hy => h y (List.mem_of_mem_take hy)
theorem Lim.drop {a : List Int} (n : Nat) (h : Lim a) : Lim (a.drop n) := fun y hy => h y (List.mem_of_mem_drop hy)
theorem Lim.get {l : List Int} (h : Lim l) (i : Nat) (hi : i < l.length) : 0 ≤ l[i] ∧ l[i] < 4294967296 := h _ (List.getElem_mem hi)
theorem Lim.set {l : List Int} (h : Lim l) (i : Nat) {x : Int} (h0 : 0 ≤ x) (h1 : x < 4294967296) : Lim (l.set i x) := fun y hy => by
  rcases List.mem_or_eq_of_mem_set hy with hy | rfl
  · exact h y hy
  · exact ⟨h0, h1⟩
theorem Lim.zeros (n : Nat) : Lim (List.replicate n 0) := fun y hy => by
  obtain rfl := List.eq_of_mem_replicate hy
  omega
theorem val_nonneg {l : List Int} (h : Lim l) : 0 ≤ val l := by
  induction l with
  | nil => simp [val]
  | cons x l ih =>
    have := ih h.tail
    have := h.head
    simp only [val]; omega
/-- The weight of the limb at a place. -/
def pw (n : Nat) : Int := 4294967296 ^ n
theorem pw_zero : pw 0 = 1 := rfl
theorem pw_succ (n : Nat) : pw (n + 1) = 4294967296 * pw n := by unfold pw; rw [Int.pow_succ]; omega
theorem pw_pos (n : Nat) : 0 < pw n := by
  induction n with
  | zero => decide
  | succ n ih => rw [pw_succ]; omega
theorem pw_add (m n : Nat) : pw (m + n) = pw m * pw n := by unfold pw; exact Int.pow_add ..
theorem val_lt {l : List Int} (h : Lim l) : val l < pw l.length := by
  induction l with
  | nil => simp [val, pw_zero]
  | cons x l ih =>
    have := ih h.tail
    have := h.head
    simp only [val, List.length_cons, pw_succ]; omega
theorem val_append (a b : List Int) : val (a ++ b) = val a + pw a.length * val b := by
  induction a with
  | nil => simp [val, pw_zero]
  | cons x a ih => simp only [List.cons_append, val, ih, List.length_cons, pw_succ]; grind
theorem val_zeros (n : Nat) : val (List.replicate n 0) = 0 := by
  induction n with
  | zero => rfl
  | succ n ih => simp only [List.replicate_succ, val, ih]; omega
/-- The limbs of a number, without noughts behind. -/
def digN (n : Nat) : List Int := if h : n = 0 then [] else ((n % 4294967296 : Nat) : Int) :: digN (n / 4294967296)
termination_by n
decreasing_by omega
def dig (n : Int) : List Int := digN n.toNat
theorem digN_lim (n : Nat) : Lim (digN n) := by
  induction n using Nat.strongRecOn with
  | _ n ih =>
    rw [digN]
    split
    · exact Lim.nil
    · exact Lim.cons (by omega) (by omega) (ih _ (by omega))
theorem val_digN (n : Nat) : val (digN n) = n := by
  induction n using Nat.strongRecOn with
  | _ n ih =>
    rw [digN]
    split
    · rename_i h; simp [val, h]
    · simp only [val]; rw [ih _ (by omega)]; omega
theorem dig_lim (n : Int) : Lim (dig n) := digN_lim _
theorem val_dig {n : Int} (h : 0 ≤ n) : val (dig n) = n := by unfold dig; rw [val_digN]; omega
theorem dig_zero : dig 0 = [] := by unfold dig; rw [digN]; rfl
theorem dig_eq_nil {n : Int} (h : 0 ≤ n) : dig n = [] ↔ n = 0 := by
  constructor
  · intro e
    have := val_dig h
    rw [e] at this
    exact this.symm
  · rintro rfl; exact dig_zero
theorem dig_cons {x n : Int} (h0 : 0 ≤ x) (h1 : x < 4294967296) (hn : 0 ≤ n) (h : x + 4294967296 * n ≠ 0) : dig (x + 4294967296 * n) = x :: dig n := by
  unfold dig
  rw [digN]
  rw [dif_neg (by omega)]
  have e1 : (((x + 4294967296 * n).toNat % 4294967296 : Nat) : Int) = x := by omega
  have e2 : (x + 4294967296 * n).toNat / 4294967296 = n.toNat := by omega
  rw [e1, e2]
theorem dig_length_le {n : Int} {k : Nat} (h0 : 0 ≤ n) (h : n < pw k) : (dig n).length ≤ k := by
  induction k generalizing n with
  | zero => rw [pw_zero] at h; rw [show n = 0 by omega, dig_zero]; simp
  | succ k ih =>
    rw [pw_succ] at h
    by_cases hn : n = 0
    · rw [hn, dig_zero]; simp
    · have e : n = n % 4294967296 + 4294967296 * (n / 4294967296) := by omega
      rw [e, dig_cons (by omega) (by omega) (by omega) (by omega)]
      have := ih (n := n / 4294967296) (by omega) (by omega)
      simp; omega
theorem lt_of_dig_length {n : Int} {k : Nat} (h0 : 0 ≤ n) (h : (dig n).length ≤ k) : n < pw k := by
  have := val_lt (dig_lim n)
  rw [val_dig h0] at this
  have hp : pw (dig n).length ≤ pw k := by
    obtain ⟨d, hd⟩ := Nat.exists_eq_add_of_le h
    rw [hd, pw_add]
    have := pw_pos (dig n).length
    have := pw_pos d
    calc pw (dig n).length = pw (dig n).length * 1 := by omega
      _ ≤ _ := Int.mul_le_mul_of_nonneg_left (by omega) (by omega)
  omega
/-- Without the noughts behind: as the machine's Norm. -/
theorem dropWhile_zeros (l : List Int) (h : Lim l) : (l.reverse.dropWhile (fun x => x == 0)).reverse = dig (val l) := by
  induction l with
  | nil => simp [val, dig_zero]
  | cons x l ih =>
    have ih := ih h.tail
    have hx := h.head
    have hv := val_nonneg h.tail
    simp only [val, List.reverse_cons]
    rw [List.dropWhile_append]
    by_cases hz : val l = 0
    · rw [hz, dig_zero] at ih
      have e : (List.dropWhile (fun x => x == 0) l.reverse) = [] := by simpa using ih
      rw [e, hz]
      by_cases h0 : x = 0
      · subst h0; simp [dig_zero]
      · have : dig (x + 4294967296 * 0) = x :: dig 0 := dig_cons (by omega) (by omega) (by omega) (by omega)
        rw [this, dig_zero]
        simp [h0]
    · have hne : dig (val l) ≠ [] := by rw [Ne, dig_eq_nil hv]; exact hz
      rw [dig_cons (by omega) (by omega) hv (by omega), ← ih]
      have e : (List.dropWhile (fun x => x == 0) l.reverse).isEmpty = false := by
        rw [← ih] at hne
        cases hd : List.dropWhile (fun x => x == 0) l.reverse with
        | nil => rw [hd] at hne; simp at hne
        | cons _ _ => rfl
      rw [e]; simp
theorem dig_val_of_last {l : List Int} (h : Lim l) (hl : ∀ hne : l ≠ [], l.getLast hne ≠ 0) : dig (val l) = l := by
  rw [← dropWhile_zeros l h]
  cases hr : l.reverse with
  | nil => simp [List.reverse_eq_nil_iff.1 hr]
  | cons x r =>
    obtain rfl : l = r.reverse ++ [x] := by rw [← List.reverse_reverse l, hr]; simp
    have hx : x ≠ 0 := by
      have := hl (by simp)
      simpa using this
    rw [List.dropWhile_cons_of_neg (by simpa using hx), ← hr, List.reverse_reverse]
theorem dig_last {n : Int} (hne : dig n ≠ []) : (dig n).getLast hne ≠ 0 := by
  have key : ∀ (m : Nat) (hne : digN m ≠ []), (digN m).getLast hne ≠ 0 := by
    intro m
    induction m using Nat.strongRecOn with
    | _ m ih =>
      rw [digN]
      split
      · intro h; exact absurd rfl h
      · intro _
        by_cases hd : digN (m / 4294967296) = []
        · have : m / 4294967296 = 0 := by
            have hv := val_digN (m / 4294967296)
            rw [hd] at hv
            simp only [val] at hv
            omega
          simp only [hd, List.getLast_singleton]
          omega
        · rw [List.getLast_cons hd]
          exact ih _ (by omega) hd
  exact key _ hne
theorem val_take_getD (l : List Int) (i : Nat) : val (l.take (i + 1)) = val (l.take i) + pw i * l.getD i 0 := by
  by_cases h : i < l.length
  · rw [List.take_succ_eq_append_getElem h, val_append, List.length_take, Nat.min_eq_left (Nat.le_of_lt h)]
    simp [val, h]
  · rw [List.take_of_length_le (by omega), List.take_of_length_le (by omega), List.getD_eq_getElem?_getD, List.getElem?_eq_none (by omega)]
    simp
theorem val_set_take (l : List Int) (i : Nat) (x : Int) (h : i < l.length) : val ((l.set i x).take (i + 1)) = val (l.take i) + pw i * x := by
  rw [val_take_getD, List.take_set_of_le (Nat.le_refl i)]
  simp [List.getD_eq_getElem?_getD, h]
theorem val_set (l : List Int) (i : Nat) (x : Int) (h : i < l.length) : val (l.set i x) = val l + pw i * (x - l[i]) := by
  induction l generalizing i with
  | nil => simp at h
  | cons y l ih =>
    cases i with
    | zero => simp [val, pw_zero]; omega
    | succ i =>
      have := ih i (by simpa using h)
      simp only [List.set_cons_succ, val, this, pw_succ, List.getElem_cons_succ]
      grind
theorem lim_one {x : Int} (h0 : 0 ≤ x) (h1 : x < 4294967296) : Lim [x] := Lim.cons h0 h1 Lim.nil
theorem val_one (x : Int) : val [x] = x := by simp [val]
theorem val_take_drop (l : List Int) (i : Nat) (h : i ≤ l.length) : val l = val (l.take i) + pw i * val (l.drop i) := by
  have := val_append (l.take i) (l.drop i)
  rwa [List.take_append_drop, List.length_take, Nat.min_eq_left h] at this
theorem val_take_succ (l : List Int) (i : Nat) (h : i < l.length) : val (l.take (i + 1)) = val (l.take i) + pw i * l[i] := by
  rw [List.take_succ_eq_append_getElem h, val_append, List.length_take, Nat.min_eq_left (Nat.le_of_lt h)]
  simp [val]
theorem val_drop_cons (l : List Int) (i : Nat) (h : i < l.length) : val (l.drop i) = l[i] + 4294967296 * val (l.drop (i + 1)) := by
  rw [List.drop_eq_getElem_cons h]; rfl
end Go.Proofs.Ytdicjemjmlbmlaa.V
/- Short names for what the packed print says often (wip/tools/pack.py). -/
namespace Go.Proofs.Ytdicjemjmlbmlaa.H
open Go.RowKit Go.Proofs.YtdicjemjmlbmlaaW.PrintWords Go.Proofs.YtdicjemjmlbmlaaW.PrintLast Go.Proofs.YtdicjemjmlbmlaaW.PrintMore
theorem bxLe {w W : World} {g : Nat} (h : Below w.heap.size w W) (hg : g = W.heap.size) : w.heap.size ≤ g := by rw [hg]; exact h.size
theorem neL {W : World} {g g2 : Nat} {o : Obj} (h : W.heap[g]? = some o) (hg : g2 = W.heap.size) : g ≠ g2 := by rw [hg]; exact Nat.ne_of_lt (blk_lt h)
theorem neR {W : World} {g g2 : Nat} {o : Obj} (h : W.heap[g]? = some o) (hg : g2 = W.heap.size) : g2 ≠ g := by rw [hg]; exact Nat.ne_of_gt (blk_lt h)
theorem bc0 {w : World} {g t : Nat} {a : Value} {l : List Value} (h : w.heap[g]? = some (.cells (List.toArray (a :: l)) t (0, 0))) : w.cell? ⟨g, 0, none⟩ = some a := (blk_cell h 0).trans (by simp)
theorem bc1 {w : World} {g t : Nat} {a b : Value} {l : List Value} (h : w.heap[g]? = some (.cells (List.toArray (a :: b :: l)) t (0, 0))) : w.cell? ⟨g, 1, none⟩ = some b := (blk_cell h 1).trans (by simp)
theorem bc2 {w : World} {g t : Nat} {a b c : Value} {l : List Value} (h : w.heap[g]? = some (.cells (List.toArray (a :: b :: c :: l)) t (0, 0))) : w.cell? ⟨g, 2, none⟩ = some c := (blk_cell h 2).trans (by simp)
section
variable {P : Program} {ops : Array Oper} {Q : Exit → Act → World → Prop}
/-- A call in a plain region (goesL_), its operands xs_ a list. -/
theorem goL {rest : List Oper} {oi : Oper} {a : Act} {w : World} (N : Option Tmp) {f : FuncId} {fn : Func} {xs_ : List Operand} {ts : Array TypeId} (hf : P.funcs[f]? = some fn) (vs : List Value)
    (h : Calls P f (List.toArray vs) w fun e w' => ∃ v, e = .returned v ∧ wpList P ops Q rest (a.put N v) w') (hd : oi.dst = N := by rfl) (hg : oi.guard = none := by rfl)
    (hop : oi.op = .call { callee := .value (.func f), args := List.toArray xs_, argTypes := ts } := by rfl) (hargs : xs_.map a.eval = vs := by first | rfl | (simp only [List.map_cons, List.map_nil, List.length_drop, List.length_take]; rfl))
    (hname : (fn.name == "runtime.NumGoroutine") = false := by kernel_rfl) (hb : fn.body.isSome = true := by rfl) : wpList P ops Q (oi :: rest) a w :=
  goesL_ N hd hg hf hname hb (List.toArray vs) hop (by rw [List.map_toArray, hargs]) h
/-- A call in a region that draws its order (goes_). -/
theorem goR {oi : Oper} {N : Option Tmp} {a : Act} {w : World} {K : Act → World → Prop} {f : FuncId} {fn : Func} {xs_ : List Operand} {ts : Array TypeId} (hf : P.funcs[f]? = some fn) (vs : List Value)
    (h : Calls P f (List.toArray vs) w fun e w' => ∃ v, e = .returned v ∧ K (a.put N v) w') (hw : Region.wanted oi (yielded ops a.tmps) = true := by rfl) (hN : oi.dst = N := by rfl)
    (hop : oi.op = .call { callee := .value (.func f), args := List.toArray xs_, argTypes := ts } := by rfl) (hargs : xs_.map a.eval = vs := by first | rfl | (simp only [List.map_cons, List.map_nil, List.length_drop, List.length_take]; rfl))
    (hname : (fn.name == "runtime.NumGoroutine") = false := by kernel_rfl) (hb : fn.body.isSome = true := by rfl) : if Region.wanted oi (yielded ops a.tmps) = true then Oper.wp P oi a w K Q else K (a.put N undef) w :=
  goes_ hf hname hb (List.toArray vs) hw hN hop (by rw [List.map_toArray, hargs]) h
end
theorem bxSet {w W : World} {g j : Nat} {v : Value} (h : Below w.heap.size w W) (hg : Aside0 (w.heap.size ≤ g)) : Below w.heap.size w (W.setCell ⟨g, j, none⟩ v) := below_set h hg.out
end Go.Proofs.Ytdicjemjmlbmlaa.H
/- nat.Norm, in the printed shape: a copy without the noughts behind. -/
namespace Go.Proofs.Ytdicjemjmlbmlaa.H
open Go.RowKit Go.Proofs.YtdicjemjmlbmlaaW.PrintWords Go.Proofs.YtdicjemjmlbmlaaW.PrintLast

/-- Without the noughts behind. -/
def normL (l : List Int) : List Int := (l.reverse.dropWhile (fun x => x == 0)).reverse
def nat_Norm.f (l0 : List Int) : Option (List Int) := if l0.length ≤ 1000000000000 then some (normL l0) else none
theorem normL_zero (l : List Int) (k : Nat) (h : k < l.length) (h0 : l[k] = 0) : normL (l.take (k + 1)) = normL (l.take k) := by
  unfold normL
  rw [List.take_succ_eq_append_getElem h, List.reverse_append, h0]
  rfl
theorem normL_stop (l : List Int) (k : Nat) (h : k < l.length) (h0 : l[k] ≠ 0) : normL (l.take (k + 1)) = l.take (k + 1) := by
  unfold normL
  rw [List.take_succ_eq_append_getElem h, List.reverse_append]
  have : ([l[k]] : List Int).reverse ++ (l.take k).reverse = l[k] :: (l.take k).reverse := rfl
  rw [this, List.dropWhile_cons_of_neg (by simpa using h0), List.reverse_cons, List.reverse_reverse]
theorem infoU32 : (Try.prog.info? 81).map (fun i => (i.zero, i.size, i.bytes)) = some (some (.int .u32 0), 1, 4) := by kernel_rfl
theorem sizeU32 : (Try.prog.info? 81).map (·.size) = some 1 := by kernel_rfl
set_option maxHeartbeats 1000000 in
set_option maxRecDepth 100000 in
theorem nat_Norm.calls (A0 : Option Addr) (c0 : Nat) (l0 : List Int) (r : List Int) (w : World) (hr0 : Kd.C (Kd.int .u32) w A0 l0.length l0) (_hc0 : l0.length ≤ c0) (h : nat_Norm.f l0 = some r) :
    Calls Try.prog 83 #[.slice A0 l0.length c0] w fun e w' => ∃ v0_ : Value, e = .returned (v0_) ∧ Kd.R (Kd.int .u32) 81 w' w.heap.size (fun _ => True) v0_ r ∧ Below w.heap.size w w' := by
  unfold nat_Norm.f at h
  split at h
  case isFalse => cases h
  case isTrue hlen =>
  have HR0 := Aside0.mk hr0
  have HRES := Aside0.mk (Option.some.inj h)
  have HLEN := Aside0.mk hlen
  clear hr0 h hlen
  go_enter Try.func83, Try.ntmps83
  go_wp2
  go_loopw [3] (fun v3 wr => ∃ k : Nat, v3 = .int .i64 (k : Int) ∧ wr = w ∧ Aside0 (k ≤ l0.length ∧ normL l0 = normL (l0.take k))) (fun v3 _ => (intOf v3).toNat)
  case atStart => exact ⟨l0.length, rfl, rfl, ⟨Nat.le_refl _, by rw [List.take_length]⟩⟩
  case round =>
    obtain ⟨k, rfl, rfl, HA⟩ := hrel
    have hk := HA.out.1
    have hl := HLEN.out
    cases k with
    | zero =>
      go_wp2_with (first | ((with_reducible refine gate_dst (N := 20) rfl ?_); refine Kd.R_make (Kd.int .u32) _ 81 rfl (N := 20) rfl 22 _ _ rfl (((0 : Nat) : Int)) rfl rfl Try.underlying22 (.int .u32 0) 4 infoU32 rfl (by decide) (by omega) 0 (ok := fun _ => True) (okp := fun _ => True) rfl (fun _ hk => hk) trivial (by omega) (by omega) (Below.refl _ _) (Nat.le_refl _) ?_; intro v20 w20 ho hb hg hnew) | ((with_reducible refine gate_builtin (b := .copy) (xs := #[.tmp 21, .tmp 22]) rfl ?_); refine Kd.R_copy (0 : Int) wr.heap.size rfl (.tmp 21) (.tmp 22) 22 22 81 rfl Try.underlying22 sizeU32 v20 _ l0 _ l0.length c0 (fun _ => True) rfl rfl ho (Kd.C_below HR0.out hb) hb hb.size ?_; intro w23 ho2 hb2 hg2))
      go_ret
      refine ⟨v20, rfl, ?_, hb2⟩
      have e : l0.take (min l0.length (List.replicate (((0 : Nat) : Int)).toNat (0 : Int)).length) ++ (List.replicate (((0 : Nat) : Int)).toNat (0 : Int)).drop (min l0.length (List.replicate (((0 : Nat) : Int)).toNat (0 : Int)).length) = r := by
        rw [← HRES.out, HA.out.2]
        simp [normL]
      rw [e] at ho2
      exact ho2
    | succ k =>
      have hlt : k < l0.length := hk
      obtain ⟨ad, rfl, hcell⟩ := Kd.at_int HR0.out (k : Int) (by omega) (by omega)
      have hrd : rd l0 (k : Int) = l0[k] := by unfold rd; simp [hlt]
      rw [hrd, Int.toNat_natCast] at hcell
      have hw : IntKind.i64.wrap (((k + 1 : Nat) : Int) - 1) = (k : Int) := by rw [i64_w]; unfold wrap64; omega
      have hkl : (k : Int) < (l0.length : Int) := by omega
      have hk0 : (0 : Int) ≤ (k : Int) := by omega
      have HRD := Aside0.mk hrd
      clear hrd
      have e1 : decide ((0 : Int) < ((k + 1 : Nat) : Int)) = true := decide_eq_true (by omega)
      by_cases hz : l0[k] = 0
      · have e2 : (l0[k] == 0) = true := by simpa using hz
        go_wp2
        go_roundw
        case rel => exact ⟨k, by go_num, trivial, ⟨by omega, by rw [HA.out.2, normL_zero l0 k hlt hz]⟩⟩
        case measure => simp [intOf]
      · have e2 : (l0[k] == 0) = false := by simpa using hz
        go_wp2_with (first | ((with_reducible refine gate_dst (N := 20) rfl ?_); refine Kd.R_make (Kd.int .u32) _ 81 rfl (N := 20) rfl 22 _ _ rfl ((k + 1 : Nat) : Int) rfl rfl Try.underlying22 (.int .u32 0) 4 infoU32 rfl (by decide) (by omega) 0 (ok := fun _ => True) (okp := fun _ => True) rfl (fun _ hk => hk) trivial (by omega) (by omega) (Below.refl _ _) (Nat.le_refl _) ?_; intro v20 w20 ho hb hg hnew) | ((with_reducible refine gate_builtin (b := .copy) (xs := #[.tmp 21, .tmp 22]) rfl ?_); refine Kd.R_copy (0 : Int) wr.heap.size rfl (.tmp 21) (.tmp 22) 22 22 81 rfl Try.underlying22 sizeU32 v20 _ l0 _ l0.length c0 (fun _ => True) rfl rfl ho (Kd.C_below HR0.out hb) hb hb.size ?_; intro w23 ho2 hb2 hg2))
        go_ret
        refine ⟨v20, rfl, ?_, hb2⟩
        have e : l0.take (min l0.length (List.replicate (((k + 1 : Nat) : Int)).toNat (0 : Int)).length) ++ (List.replicate (((k + 1 : Nat) : Int)).toNat (0 : Int)).drop (min l0.length (List.replicate (((k + 1 : Nat) : Int)).toNat (0 : Int)).length) = r := by
          rw [← HRES.out, HA.out.2, normL_stop l0 k hlt hz, Int.toNat_natCast, List.length_replicate, Nat.min_eq_right hlt, List.drop_eq_nil_of_le (by simp), List.append_nil]
        rw [e] at ho2
        exact ho2
end Go.Proofs.Ytdicjemjmlbmlaa.H
/- Written by a program of this session, wip/tools/patch_print.py, over the kit's print of the loaded functions. -/
namespace Go.Proofs.Ytdicjemjmlbmlaa.H
end Go.Proofs.Ytdicjemjmlbmlaa.H
namespace Go.Proofs.Ytdicjemjmlbmlaa.PA
open Go.RowKit Go.Proofs.YtdicjemjmlbmlaaW.PrintWords Go.Proofs.YtdicjemjmlbmlaaW.PrintLast Go.Proofs.YtdicjemjmlbmlaaW.PrintMore Go.Proofs.Ytdicjemjmlbmlaa.H
attribute [local go_sem] max2_int min2_int max_two min_two max_three min_three max_four min_four   -- for this text's walks alone
attribute [local go_sem] box_twice
set_option linter.unusedVariables false
set_option linter.unusedSimpArgs false

/-! ### gudgeonref01_Same: function 50 -/
def gudgeonref01_Same.l0 : Nat → List Int → List Int → Int → Option (Bool)
 | 0, _, _, _ => none
 | k + 1, x0, x1, x5 => if x5 < (x0.length : Int) then (if 0 ≤ x5 then (if x5 < (x1.length : Int) then (if (rd x0 x5) = (rd x1 x5) then (gudgeonref01_Same.l0 k x0 x1 (wrap64 (x5 + 1))) else (some false)) else (none)) else (none)) else (some true)
def gudgeonref01_Same.f (k : Nat) (l0 : List Int) (l1 : List Int) : Option (Bool) := if (l0.length : Int) = (l1.length : Int) then (gudgeonref01_Same.l0 k l0 l1 0) else (some false)
set_option maxHeartbeats 8000000 in
set_option maxRecDepth 100000 in
theorem gudgeonref01_Same.calls (k : Nat) (A0 : Option Addr) (c0 : Nat) (l0 : List Int) (A1 : Option Addr) (c1 : Nat) (l1 : List Int) (r : Bool) (w : World) (hr0 : Kd.C (Kd.int .u32) w A0 l0.length l0) (hc0 : l0.length ≤ c0) (hr1 : Kd.C (Kd.int .u32) w A1 l1.length l1) (hc1 : l1.length ≤ c1) (h : gudgeonref01_Same.f k l0 l1 = some r) :
  Calls Try.prog 50 #[.slice A0 l0.length c0, .slice A1 l1.length c1] w fun e w' => e = .returned (.bool r) ∧ Drawn0 w w' := by
 have HR0 := Aside0.mk hr0
 have HC0 := Aside0.mk hc0
 clear hr0 hc0
 have HR1 := Aside0.mk hr1
 have HC1 := Aside0.mk hc1
 clear hr1 hc1
 have H : (if (l0.length : Int) = (l1.length : Int) then (gudgeonref01_Same.l0 k l0 l1 0) else (some false)) = some r := h
 clear h
 by_cases c3 : (l0.length : Int) = (l1.length : Int)
 ·rw [if_pos c3] at H
  have c3b0 : ((l0.length : Int) == (l1.length : Int)) = true := beq_iff_eq.mpr c3
  have c3b1 : ((l0.length : Int) != (l1.length : Int)) = false := bne_eq_false_iff_eq.mpr c3
  have c3b2 : (l0.length == l1.length) = true := by first | simpa using c3 | (simp at c3 ⊢; omega)
  clear c3
  have H' := Aside0.mk H
  clear H
  go_enter Try.func50, Try.ntmps50
  go_wp2
  repeat (go_quiet (fail); try go_wp2)
  go_loopg [5] k (fun kq v5 w' => ∃ (x5_1 : Int), v5 = .int .i64 x5_1 ∧ Aside0 (gudgeonref01_Same.l0 kq l0 l1 x5_1 = some r) ∧ Aside0 (kq ≤ k) ∧ Drawn0 w w')
  case atStart => exact ⟨(0), (by first | rfl | (simp; done)), H', ⟨Nat.le_refl _⟩, by repeat (first | exact Drawn0.refl _ | apply Drawn0.step)⟩
  case round =>
   clear H'
   try clear c1
   try clear p2
   try clear c3
   try clear c3b0
   try clear c3b1
   try clear c3b2
   obtain ⟨x5_1, rfl, HA, HK1, ⟨m1, rfl⟩⟩ := hrel
   cases gk with
   | zero => exact absurd HA.out (by simp [gudgeonref01_Same.l0])
   | succ k1 =>
    have H := HA.out
    clear HA
    simp only [gudgeonref01_Same.l0] at H
    by_cases c4 : x5_1 < (l0.length : Int)
    ·rw [if_pos c4] at H
     have c4b0 : decide (x5_1 < (l0.length : Int)) = true := decide_eq_true c4
     clear c4
     by_cases c5 : 0 ≤ x5_1
     ·rw [if_pos c5] at H
      have c5b0 : decide (0 ≤ x5_1) = true := decide_eq_true c5
      clear c5
      by_cases c6 : x5_1 < (l1.length : Int)
      ·rw [if_pos c6] at H
       have c6b0 : decide (x5_1 < (l1.length : Int)) = true := decide_eq_true c6
       clear c6
       by_cases c7 : (rd l0 x5_1) = (rd l1 x5_1)
       ·rw [if_pos c7] at H
        have c7b0 : ((rd l0 x5_1) == (rd l1 x5_1)) = true := beq_iff_eq.mpr c7
        have c7b1 : ((rd l0 x5_1) != (rd l1 x5_1)) = false := bne_eq_false_iff_eq.mpr c7
        clear c7
        have H' := Aside0.mk H
        clear H
        have p101 : 0 ≤ (x5_1 : Int) := of_decide_eq_true (by first | (with_reducible assumption) | assumption)
        have q101 : x5_1 < (l0.length : Int) := of_decide_eq_true (by first | (with_reducible assumption) | assumption)
        obtain ⟨ad101, e101, hx101_0⟩ := Kd.at_int HR0.out x5_1 p101 q101
        cases e101
        replace p101 := eq_true p101
        replace q101 := eq_true q101
        have p102 : 0 ≤ (x5_1 : Int) := of_decide_eq_true (by first | (with_reducible assumption) | assumption)
        have q102 : x5_1 < (l1.length : Int) := of_decide_eq_true (by first | (with_reducible assumption) | assumption)
        obtain ⟨ad102, e102, hx102_0⟩ := Kd.at_int HR1.out x5_1 p102 q102
        cases e102
        replace p102 := eq_true p102
        replace q102 := eq_true q102
        go_wp2
        repeat (go_quiet (fail); try go_wp2)
        go_roundg k1
        case measure => have := HK1.out; omega
        case rel => exact ⟨(wrap64 (x5_1 + 1)), (by first | rfl | (simp; done)), H', ⟨by have := HK1.out; omega⟩, by repeat (first | exact Drawn0.refl _ | apply Drawn0.step)⟩
       ·rw [if_neg c7] at H
        have c7b0 : ((rd l0 x5_1) == (rd l1 x5_1)) = false := beq_eq_false_iff_ne.mpr c7
        have c7b1 : ((rd l0 x5_1) != (rd l1 x5_1)) = true := bne_iff_ne.mpr c7
        obtain rfl := Option.some.inj H
        have p101 : 0 ≤ (x5_1 : Int) := of_decide_eq_true (by first | (with_reducible assumption) | assumption)
        have q101 : x5_1 < (l0.length : Int) := of_decide_eq_true (by first | (with_reducible assumption) | assumption)
        obtain ⟨ad101, e101, hx101_0⟩ := Kd.at_int HR0.out x5_1 p101 q101
        cases e101
        replace p101 := eq_true p101
        replace q101 := eq_true q101
        have p102 : 0 ≤ (x5_1 : Int) := of_decide_eq_true (by first | (with_reducible assumption) | assumption)
        have q102 : x5_1 < (l1.length : Int) := of_decide_eq_true (by first | (with_reducible assumption) | assumption)
        obtain ⟨ad102, e102, hx102_0⟩ := Kd.at_int HR1.out x5_1 p102 q102
        cases e102
        replace p102 := eq_true p102
        replace q102 := eq_true q102
        go_wp2
        repeat (go_quiet (fail); try go_wp2)
        go_ret
        exact ⟨by first | rfl | (simp; done), by repeat (first | exact Drawn0.refl _ | apply Drawn0.step)⟩
      ·rw [if_neg c6] at H
       exact absurd H (by simp)
     ·rw [if_neg c5] at H
      exact absurd H (by simp)
    ·rw [if_neg c4] at H
     have c4b0 : decide (x5_1 < (l0.length : Int)) = false := decide_eq_false c4
     clear c4
     obtain rfl := Option.some.inj H
     go_wp2
     repeat (go_quiet (fail); try go_wp2)
     go_ret
     exact ⟨by first | rfl | (simp; done), by repeat (first | exact Drawn0.refl _ | apply Drawn0.step)⟩
 ·rw [if_neg c3] at H
  have c3b0 : ((l0.length : Int) == (l1.length : Int)) = false := beq_eq_false_iff_ne.mpr c3
  have c3b1 : ((l0.length : Int) != (l1.length : Int)) = true := bne_iff_ne.mpr c3
  have c3b2 : (l0.length == l1.length) = false := by first | simpa using c3 | (simp at c3 ⊢; omega)
  obtain rfl := Option.some.inj H
  go_enter Try.func50, Try.ntmps50
  go_wp2
  repeat (go_quiet (fail); try go_wp2)
  go_ret
  exact ⟨by first | rfl | (simp; done), by repeat (first | exact Drawn0.refl _ | apply Drawn0.step)⟩

/-! ### gudgeonref02_Same: function 16 -/
def gudgeonref02_Same.f (k : Nat) (a0_0 : Bool) (l0_1 : List Int) (a1_0 : Bool) (l1_1 : List Int) : Option (Bool) := (gudgeonref01_Same.f k l0_1 l1_1).bind fun t105 => (if t105 = true then (some (a0_0 == a1_0)) else (some false))
set_option maxHeartbeats 8000000 in
set_option maxRecDepth 100000 in
theorem gudgeonref02_Same.calls (k : Nat) (a0_0 : Bool) (A0_1 : Option Addr) (c0_1 : Nat) (l0_1 : List Int) (a1_0 : Bool) (A1_1 : Option Addr) (c1_1 : Nat) (l1_1 : List Int) (r : Bool) (w : World) (hr0_1 : Kd.C (Kd.int .u32) w A0_1 l0_1.length l0_1) (hc0_1 : l0_1.length ≤ c0_1) (hr1_1 : Kd.C (Kd.int .u32) w A1_1 l1_1.length l1_1) (hc1_1 : l1_1.length ≤ c1_1) (h : gudgeonref02_Same.f k a0_0 l0_1 a1_0 l1_1 = some r) :
  Calls Try.prog 16 #[.agg #[.bool a0_0, .slice A0_1 l0_1.length c0_1], .agg #[.bool a1_0, .slice A1_1 l1_1.length c1_1]] w fun e w' => e = .returned (.bool r) ∧ Below w.heap.size w w' := by
 have hu24 := Try.underlying24
 have HR0_1 := Aside0.mk hr0_1
 have HC0_1 := Aside0.mk hc0_1
 clear hr0_1 hc0_1
 have HR1_1 := Aside0.mk hr1_1
 have HC1_1 := Aside0.mk hc1_1
 clear hr1_1 hc1_1
 have HB := Aside0.mk (Below.refl w.heap.size w)
 have H : ((gudgeonref01_Same.f k l0_1 l1_1).bind fun t105 => (if t105 = true then (some (a0_0 == a1_0)) else (some false))) = some r := h
 clear h
 obtain ⟨t105, A30, H⟩ := Option.bind_eq_some_iff.mp H
 try dsimp only at H
 have A3 := Aside0.mk A30
 clear A30
 by_cases c4 : t105 = true
 ·subst c4
  rw [if_pos rfl] at H
  obtain rfl := Option.some.inj H
  go_enter Try.func16, Try.ntmps16
  go_wp2_with (first | ((with_reducible refine gate_dst (N := 2) rfl ?_); refine box_event ?hg (N := 2) ?hd (cs := #[.bool a0_0, .slice A0_1 l0_1.length c0_1]) (t := 24) ?hr ?_; (case hd => rfl); (case hg => rfl); (case hr => first | (go_simp; done) | (go_simp; rfl)); intro gb103 hg w5 hbox hb; have BK103 := Aside0.mk (hbox); have GW103 := Aside0.mk (bxLe HB.out hg); have GE103 := GW103; replace HB := Aside0.mk (below_step HB.out hb); clear hb hbox hg) | ((with_reducible refine gate_dst (N := 3) rfl ?_); refine box_event ?hg (N := 3) ?hd (cs := #[.bool a1_0, .slice A1_1 l1_1.length c1_1]) (t := 24) ?hr ?_; (case hd => rfl); (case hg => rfl); (case hr => first | (go_simp; done) | (go_simp; rfl)); intro gb104 hg w6 hbox hb; have BK104 := Aside0.mk (hbox); have GW104 := Aside0.mk (bxLe HB.out hg); have GE104 := GW104; replace HB := Aside0.mk (below_step HB.out hb); have NB103_104 := Aside0.mk (neL BK103.out hg); have NB104_103 := Aside0.mk (neR BK103.out hg); replace BK103 := Aside0.mk (blk_below BK103.out hb); clear hb hbox hg; have hnb7 := NB103_104.out; have hnc7 := NB104_103.out; have hcz8_0 : w6.cell? ⟨gb103, 0, none⟩ = some (.bool a0_0) := bc0 BK103.out; have hcz8_1 : w6.cell? ⟨gb103, 1, none⟩ = some (.slice A0_1 l0_1.length c0_1) := bc1 BK103.out; have hfz8_0 := blk_frozen BK103.out 0; have hfz8_1 := blk_frozen BK103.out 1; have hcz9_0 : w6.cell? ⟨gb104, 0, none⟩ = some (.bool a1_0) := bc0 BK104.out; have hcz9_1 : w6.cell? ⟨gb104, 1, none⟩ = some (.slice A1_1 l1_1.length c1_1) := bc1 BK104.out; have hfz9_0 := blk_frozen BK104.out 0; have hfz9_1 := blk_frozen BK104.out 1) | ((with_reducible refine gate_callee (f := 50) rfl ?_); refine goL (some 10) Try.func50 [.slice A0_1 l0_1.length c0_1, .slice A1_1 l1_1.length c1_1] ?_; (with_reducible refine (gudgeonref01_Same.calls k _ _ l0_1 _ _ l1_1 true _ ?side1 ?side2 ?side3 ?side4 A3.out).mono ?_); (case side1 => exact (Kd.C_below HR0_1.out HB.out)); (case side2 => exact HC0_1.out); (case side3 => exact (Kd.C_below HR1_1.out HB.out)); (case side4 => exact HC1_1.out); rintro e w' ⟨rfl, ⟨nd, rfl⟩⟩; refine ⟨_, rfl, ?_⟩))
  go_ret
  exact ⟨by first | rfl | (simp [errW_none, errW_some] <;> rfl) | (refine congrArg (fun z_ => Ending.returned (Value.bool z_)) (decide_eq_decide.mpr ?_); unfold wrap64; omega) | (simp [*, errW_none, errW_some] <;> rfl), by repeat first | exact HB.out | refine bxSet ?_ (by assumption) | apply below_alloc | apply pw_below_drewN⟩
 ·replace c4 := Bool.eq_false_iff.mpr c4
  subst c4
  rw [if_neg (show ¬ (false = true) by decide)] at H
  obtain rfl := Option.some.inj H
  go_enter Try.func16, Try.ntmps16
  go_wp2_with (first | ((with_reducible refine gate_dst (N := 2) rfl ?_); refine box_event ?hg (N := 2) ?hd (cs := #[.bool a0_0, .slice A0_1 l0_1.length c0_1]) (t := 24) ?hr ?_; (case hd => rfl); (case hg => rfl); (case hr => first | (go_simp; done) | (go_simp; rfl)); intro gb103 hg w10 hbox hb; have BK103 := Aside0.mk (hbox); have GW103 := Aside0.mk (bxLe HB.out hg); have GE103 := GW103; replace HB := Aside0.mk (below_step HB.out hb); clear hb hbox hg) | ((with_reducible refine gate_dst (N := 3) rfl ?_); refine box_event ?hg (N := 3) ?hd (cs := #[.bool a1_0, .slice A1_1 l1_1.length c1_1]) (t := 24) ?hr ?_; (case hd => rfl); (case hg => rfl); (case hr => first | (go_simp; done) | (go_simp; rfl)); intro gb104 hg w11 hbox hb; have BK104 := Aside0.mk (hbox); have GW104 := Aside0.mk (bxLe HB.out hg); have GE104 := GW104; replace HB := Aside0.mk (below_step HB.out hb); have NB103_104 := Aside0.mk (neL BK103.out hg); have NB104_103 := Aside0.mk (neR BK103.out hg); replace BK103 := Aside0.mk (blk_below BK103.out hb); clear hb hbox hg; have hnb12 := NB103_104.out; have hnc12 := NB104_103.out; have hcz13_0 : w11.cell? ⟨gb103, 0, none⟩ = some (.bool a0_0) := bc0 BK103.out; have hcz13_1 : w11.cell? ⟨gb103, 1, none⟩ = some (.slice A0_1 l0_1.length c0_1) := bc1 BK103.out; have hfz13_0 := blk_frozen BK103.out 0; have hfz13_1 := blk_frozen BK103.out 1; have hcz14_0 : w11.cell? ⟨gb104, 0, none⟩ = some (.bool a1_0) := bc0 BK104.out; have hcz14_1 : w11.cell? ⟨gb104, 1, none⟩ = some (.slice A1_1 l1_1.length c1_1) := bc1 BK104.out; have hfz14_0 := blk_frozen BK104.out 0; have hfz14_1 := blk_frozen BK104.out 1) | ((with_reducible refine gate_callee (f := 50) rfl ?_); refine goL (some 10) Try.func50 [.slice A0_1 l0_1.length c0_1, .slice A1_1 l1_1.length c1_1] ?_; (with_reducible refine (gudgeonref01_Same.calls k _ _ l0_1 _ _ l1_1 false _ ?side1 ?side2 ?side3 ?side4 A3.out).mono ?_); (case side1 => exact (Kd.C_below HR0_1.out HB.out)); (case side2 => exact HC0_1.out); (case side3 => exact (Kd.C_below HR1_1.out HB.out)); (case side4 => exact HC1_1.out); rintro e w' ⟨rfl, ⟨nd, rfl⟩⟩; refine ⟨_, rfl, ?_⟩))
  go_ret
  exact ⟨by first | rfl | (simp [errW_none, errW_some] <;> rfl) | (refine congrArg (fun z_ => Ending.returned (Value.bool z_)) (decide_eq_decide.mpr ?_); unfold wrap64; omega) | (simp [*, errW_none, errW_some] <;> rfl), by repeat first | exact HB.out | refine bxSet ?_ (by assumption) | apply below_alloc | apply pw_below_drewN⟩

/-! ### whole_made: function 63 -/
def whole_made.f (a0 : Bool) (l1 : List Int) : Option (Bool × List Int) := (nat_Norm.f l1).bind fun t107 => (if a0 = true then (some (decide ((t107.length : Int) > 0), t107)) else (some (false, t107)))
set_option maxHeartbeats 8000000 in
set_option maxRecDepth 100000 in
theorem whole_made.calls (a0 : Bool) (A1 : Option Addr) (c1 : Nat) (l1 : List Int) (r1 : Bool) (r2 : List Int) (w : World) (hr1 : Kd.C (Kd.int .u32) w A1 l1.length l1) (hc1 : l1.length ≤ c1) (h : whole_made.f a0 l1 = some (r1, r2)) :
  Calls Try.prog 63 #[.bool a0, .slice A1 l1.length c1] w fun e w' => ∃ v1_ : Value, e = .returned (.agg #[.bool r1, v1_]) ∧ Kd.R (Kd.int .u32) 81 w' w.heap.size (fun _ => True) v1_ r2 ∧ Below w.heap.size w w' := by
 have hu24 := Try.underlying24
 have HR1 := Aside0.mk hr1
 have HC1 := Aside0.mk hc1
 clear hr1 hc1
 have HB := Aside0.mk (Below.refl w.heap.size w)
 have H : ((nat_Norm.f l1).bind fun t107 => (if a0 = true then (some (decide ((t107.length : Int) > 0), t107)) else (some (false, t107)))) = some (r1, r2) := h
 clear h
 obtain ⟨t107, A30, H⟩ := Option.bind_eq_some_iff.mp H
 try dsimp only at H
 have A3 := Aside0.mk A30
 clear A30
 by_cases c4 : a0 = true
 ·subst c4
  rw [if_pos rfl] at H
  rw [show decide ((t107.length : Int) > 0) = decide (0 < t107.length) from decide_eq_decide.mpr (by omega)] at H
  simp only [Option.some.injEq, Prod.mk.injEq] at H
  obtain ⟨rfl, rfl⟩ := H
  go_enter Try.func63, Try.ntmps63
  go_wp2_with (first | ((with_reducible refine gate_dst (N := 4) rfl ?_); (try (refine gate_guard (by rfl) ?_; dsimp only)); refine box_event ?hg (N := 4) ?hd (cs := #[.bool false, .slice none 0 0]) (t := 24) ?hr ?_; (case hd => rfl); (case hg => rfl); (case hr => first | (go_simp; done) | (go_simp; rfl)); intro gb106 hg w5 hbox hb; have BK106 := Aside0.mk (hbox); have GW106 := Aside0.mk (bxLe HB.out hg); have GE106 := GW106; replace HB := Aside0.mk (below_step HB.out hb); clear hb hbox hg) | ((with_reducible refine gate_callee (f := 83) rfl ?_); refine goL (some 6) Try.func83 [.slice A1 l1.length c1] ?_; (with_reducible refine (nat_Norm.calls _ _ l1 t107 _ ?side1 ?side2 A3.out).mono ?_); (case side1 => exact (Kd.C_below HR1.out HB.out)); (case side2 => exact HC1.out); rintro e w6 ⟨v108, rfl, ho0, hb⟩; refine ⟨_, rfl, ?_⟩; have HO109 := Aside0.mk (Kd.R_lower ho0 (below_size HB.out)); replace BK106 := Aside0.mk (blk_below BK106.out hb); replace HB := Aside0.mk (below_step HB.out hb); obtain ⟨Ao7, co7, eo7⟩ := Kd.R_slice HO109.out; subst eo7; have hcz8_0 : w6.cell? ⟨gb106, 0, none⟩ = some (.bool false) := bc0 BK106.out; have hcz8_1 : w6.cell? ⟨gb106, 1, none⟩ = some (.slice none 0 0) := bc1 BK106.out; have hfz8_0 := blk_frozen BK106.out 0; have hfz8_1 := blk_frozen BK106.out 1))
  refine bodyPost_ret (results_cell_row rfl _ _ gb106 24 #[.bool (decide (0 < t107.length)), .slice Ao7 t107.length co7] (0, 0) _ rfl (by refine blk_put (cs := #[.bool (decide (0 < t107.length)), .slice none 0 0]) ?_ 1 _ rfl; refine blk_put (cs := #[.bool false, .slice none 0 0]) ?_ 0 _ rfl; exact BK106.out) Try.underlying24 rfl (by kernel_rfl)) rfl ?_
  exact ⟨_, rfl, Kd.R_mono (Kd.R_far (p := ⟨gb106, 1, none⟩) (Kd.R_far (p := ⟨gb106, 0, none⟩) (Kd.R_types HO109.out BK106.out (by decide)) (fun _ hk => hk.2) (.bool (decide (0 < t107.length)))) (fun _ hk => hk.2) (.slice Ao7 t107.length co7)) (fun _ hk => trivial), by repeat first | exact HB.out | refine bxSet ?_ (by assumption) | apply below_alloc | apply pw_below_drewN⟩
 ·replace c4 := Bool.eq_false_iff.mpr c4
  subst c4
  rw [if_neg (show ¬ (false = true) by decide)] at H
  simp only [Option.some.injEq, Prod.mk.injEq] at H
  obtain ⟨rfl, rfl⟩ := H
  go_enter Try.func63, Try.ntmps63
  go_wp2_with (first | ((with_reducible refine gate_dst (N := 4) rfl ?_); (try (refine gate_guard (by rfl) ?_; dsimp only)); refine box_event ?hg (N := 4) ?hd (cs := #[.bool false, .slice none 0 0]) (t := 24) ?hr ?_; (case hd => rfl); (case hg => rfl); (case hr => first | (go_simp; done) | (go_simp; rfl)); intro gb106 hg w9 hbox hb; have BK106 := Aside0.mk (hbox); have GW106 := Aside0.mk (bxLe HB.out hg); have GE106 := GW106; replace HB := Aside0.mk (below_step HB.out hb); clear hb hbox hg) | ((with_reducible refine gate_callee (f := 83) rfl ?_); refine goL (some 6) Try.func83 [.slice A1 l1.length c1] ?_; (with_reducible refine (nat_Norm.calls _ _ l1 t107 _ ?side1 ?side2 A3.out).mono ?_); (case side1 => exact (Kd.C_below HR1.out HB.out)); (case side2 => exact HC1.out); rintro e w10 ⟨v108, rfl, ho0, hb⟩; refine ⟨_, rfl, ?_⟩; have HO109 := Aside0.mk (Kd.R_lower ho0 (below_size HB.out)); replace BK106 := Aside0.mk (blk_below BK106.out hb); replace HB := Aside0.mk (below_step HB.out hb); obtain ⟨Ao11, co11, eo11⟩ := Kd.R_slice HO109.out; subst eo11; have hcz12_0 : w10.cell? ⟨gb106, 0, none⟩ = some (.bool false) := bc0 BK106.out; have hcz12_1 : w10.cell? ⟨gb106, 1, none⟩ = some (.slice none 0 0) := bc1 BK106.out; have hfz12_0 := blk_frozen BK106.out 0; have hfz12_1 := blk_frozen BK106.out 1))
  refine bodyPost_ret (results_cell_row rfl _ _ gb106 24 #[.bool false, .slice Ao11 t107.length co11] (0, 0) _ rfl (by refine blk_put (cs := #[.bool false, .slice none 0 0]) ?_ 1 _ rfl; refine blk_put (cs := #[.bool false, .slice none 0 0]) ?_ 0 _ rfl; exact BK106.out) Try.underlying24 rfl (by kernel_rfl)) rfl ?_
  exact ⟨_, rfl, Kd.R_mono (Kd.R_far (p := ⟨gb106, 1, none⟩) (Kd.R_far (p := ⟨gb106, 0, none⟩) (Kd.R_types HO109.out BK106.out (by decide)) (fun _ hk => hk.2) (.bool false)) (fun _ hk => hk.2) (.slice Ao11 t107.length co11)) (fun _ hk => trivial), by repeat first | exact HB.out | refine bxSet ?_ (by assumption) | apply below_alloc | apply pw_below_drewN⟩

/-! ### whole_Norm: function 51 -/
def whole_Norm.f (a0_0 : Bool) (l0_1 : List Int) : Option (Bool × List Int) := (whole_made.f a0_0 l0_1).bind fun bt112 => (some (bt112.1, bt112.2))
set_option maxHeartbeats 8000000 in
set_option maxRecDepth 100000 in
theorem whole_Norm.calls (a0_0 : Bool) (A0_1 : Option Addr) (c0_1 : Nat) (l0_1 : List Int) (r1 : Bool) (r2 : List Int) (w : World) (hr0_1 : Kd.C (Kd.int .u32) w A0_1 l0_1.length l0_1) (hc0_1 : l0_1.length ≤ c0_1) (h : whole_Norm.f a0_0 l0_1 = some (r1, r2)) :
  Calls Try.prog 51 #[.agg #[.bool a0_0, .slice A0_1 l0_1.length c0_1]] w fun e w' => ∃ v1_ : Value, e = .returned (.agg #[.bool r1, v1_]) ∧ Kd.R (Kd.int .u32) 81 w' w.heap.size (fun _ => True) v1_ r2 ∧ Below w.heap.size w w' := by
 have hu24 := Try.underlying24
 have HR0_1 := Aside0.mk hr0_1
 have HC0_1 := Aside0.mk hc0_1
 clear hr0_1 hc0_1
 have HB := Aside0.mk (Below.refl w.heap.size w)
 have H : ((whole_made.f a0_0 l0_1).bind fun bt112 => (some (bt112.1, bt112.2))) = some (r1, r2) := h
 clear h
 obtain ⟨⟨t112, t113⟩, A20, H⟩ := Option.bind_eq_some_iff.mp H
 try dsimp only at H
 have A2 := Aside0.mk A20
 clear A20
 simp only [Option.some.injEq, Prod.mk.injEq] at H
 obtain ⟨rfl, rfl⟩ := H
 go_enter Try.func51, Try.ntmps51
 go_wp2_with (first | ((with_reducible refine gate_dst (N := 1) rfl ?_); refine box_event ?hg (N := 1) ?hd (cs := #[.bool a0_0, .slice A0_1 l0_1.length c0_1]) (t := 24) ?hr ?_; (case hd => rfl); (case hg => rfl); (case hr => first | (go_simp; done) | (go_simp; rfl)); intro gb110 hg w3 hbox hb; have BK110 := Aside0.mk (hbox); have GW110 := Aside0.mk (bxLe HB.out hg); have GE110 := GW110; replace HB := Aside0.mk (below_step HB.out hb); clear hb hbox hg) | ((with_reducible refine gate_dst (N := 2) rfl ?_); refine box_event ?hg (N := 2) ?hd (cs := #[.bool false, .slice none 0 0]) (t := 24) ?hr ?_; (case hd => rfl); (case hg => rfl); (case hr => first | (go_simp; done) | (go_simp; rfl)); intro gb111 hg w4 hbox hb; have BK111 := Aside0.mk (hbox); have GW111 := Aside0.mk (bxLe HB.out hg); have GE111 := GW111; replace HB := Aside0.mk (below_step HB.out hb); have NB110_111 := Aside0.mk (neL BK110.out hg); have NB111_110 := Aside0.mk (neR BK110.out hg); replace BK110 := Aside0.mk (blk_below BK110.out hb); clear hb hbox hg; have hnb5 := NB110_111.out; have hnc5 := NB111_110.out; have hcz6_0 : w4.cell? ⟨gb110, 0, none⟩ = some (.bool a0_0) := bc0 BK110.out; have hcz6_1 : w4.cell? ⟨gb110, 1, none⟩ = some (.slice A0_1 l0_1.length c0_1) := bc1 BK110.out; have hfz6_0 := blk_frozen BK110.out 0; have hfz6_1 := blk_frozen BK110.out 1) | ((with_reducible refine gate_callee (f := 63) rfl ?_); refine goL (some 7) Try.func63 [.bool a0_0, .slice A0_1 l0_1.length c0_1] ?_; (with_reducible refine (whole_made.calls a0_0 _ _ l0_1 t112 t113 _ ?side1 ?side2 A2.out).mono ?_); (case side1 => exact (Kd.C_below HR0_1.out HB.out)); (case side2 => exact HC0_1.out); rintro e w7 ⟨v114, rfl, ho0, hb⟩; refine ⟨_, rfl, ?_⟩; have HO115 := Aside0.mk (Kd.R_lower ho0 (below_size HB.out)); replace BK111 := Aside0.mk (blk_below BK111.out hb); replace HB := Aside0.mk (below_step HB.out hb); have hcz8_0 : w7.cell? ⟨gb111, 0, none⟩ = some (.bool false) := bc0 BK111.out; have hcz8_1 : w7.cell? ⟨gb111, 1, none⟩ = some (.slice none 0 0) := bc1 BK111.out; have hfz8_0 := blk_frozen BK111.out 0; have hfz8_1 := blk_frozen BK111.out 1; obtain ⟨Ao9, co9, eo9⟩ := Kd.R_slice HO115.out; subst eo9))
 refine bodyPost_ret (results_cell_row rfl _ _ gb111 24 #[.bool t112, .slice Ao9 t113.length co9] (0, 0) _ rfl (by refine blk_put (cs := #[.bool t112, .slice none 0 0]) ?_ 1 _ rfl; refine blk_put (cs := #[.bool false, .slice none 0 0]) ?_ 0 _ rfl; exact BK111.out) Try.underlying24 rfl (by kernel_rfl)) rfl ?_
 exact ⟨_, rfl, Kd.R_mono (Kd.R_far (p := ⟨gb111, 1, none⟩) (Kd.R_far (p := ⟨gb111, 0, none⟩) (Kd.R_types HO115.out BK111.out (by decide)) (fun _ hk => hk.2) (.bool t112)) (fun _ hk => hk.2) (.slice Ao9 t113.length co9)) (fun _ hk => trivial), by repeat first | exact HB.out | refine bxSet ?_ (by assumption) | apply below_alloc | apply pw_below_drewN⟩

/-! ### whole_Sign: function 19 -/
def whole_Sign.f (a0_0 : Bool) (l0_1 : List Int) : Option (Int) := (whole_Norm.f a0_0 l0_1).bind fun bt117 => (if bt117.1 = true then (some (-1)) else (if (bt117.2.length : Int) > 0 then (some 1) else (some 0)))
set_option maxHeartbeats 8000000 in
set_option maxRecDepth 100000 in
theorem whole_Sign.calls (a0_0 : Bool) (A0_1 : Option Addr) (c0_1 : Nat) (l0_1 : List Int) (r : Int) (w : World) (hr0_1 : Kd.C (Kd.int .u32) w A0_1 l0_1.length l0_1) (hc0_1 : l0_1.length ≤ c0_1) (h : whole_Sign.f a0_0 l0_1 = some r) :
  Calls Try.prog 19 #[.agg #[.bool a0_0, .slice A0_1 l0_1.length c0_1]] w fun e w' => e = .returned (.int .i64 r) ∧ Below w.heap.size w w' := by
 have hu24 := Try.underlying24
 have HR0_1 := Aside0.mk hr0_1
 have HC0_1 := Aside0.mk hc0_1
 clear hr0_1 hc0_1
 have HB := Aside0.mk (Below.refl w.heap.size w)
 have H : ((whole_Norm.f a0_0 l0_1).bind fun bt117 => (if bt117.1 = true then (some (-1)) else (if (bt117.2.length : Int) > 0 then (some 1) else (some 0)))) = some r := h
 clear h
 obtain ⟨⟨t117, t118⟩, A20, H⟩ := Option.bind_eq_some_iff.mp H
 try dsimp only at H
 have A2 := Aside0.mk A20
 clear A20
 by_cases c3 : t117 = true
 ·subst c3
  rw [if_pos rfl] at H
  obtain rfl := Option.some.inj H
  go_enter Try.func19, Try.ntmps19
  go_wp2_with (first | ((with_reducible refine gate_dst (N := 1) rfl ?_); refine box_event ?hg (N := 1) ?hd (cs := #[.bool a0_0, .slice A0_1 l0_1.length c0_1]) (t := 24) ?hr ?_; (case hd => rfl); (case hg => rfl); (case hr => first | (go_simp; done) | (go_simp; rfl)); intro gb116 hg w4 hbox hb; have BK116 := Aside0.mk (hbox); have GW116 := Aside0.mk (bxLe HB.out hg); have GE116 := GW116; replace HB := Aside0.mk (below_step HB.out hb); clear hb hbox hg; have hcz5_0 : w4.cell? ⟨gb116, 0, none⟩ = some (.bool a0_0) := bc0 BK116.out; have hcz5_1 : w4.cell? ⟨gb116, 1, none⟩ = some (.slice A0_1 l0_1.length c0_1) := bc1 BK116.out; have hfz5_0 := blk_frozen BK116.out 0; have hfz5_1 := blk_frozen BK116.out 1) | ((with_reducible refine gate_callee (f := 51) rfl ?_); refine goL (some 4) Try.func51 [.agg #[.bool a0_0, .slice A0_1 l0_1.length c0_1]] ?_; (with_reducible refine (whole_Norm.calls a0_0 _ _ l0_1 true t118 _ ?side1 ?side2 A2.out).mono ?_); (case side1 => exact (Kd.C_below HR0_1.out HB.out)); (case side2 => exact HC0_1.out); rintro e w6 ⟨v119, rfl, ho0, hb⟩; refine ⟨_, rfl, ?_⟩; have HO120 := Aside0.mk (Kd.R_lower ho0 (below_size HB.out)); replace BK116 := Aside0.mk (blk_below BK116.out hb); replace HB := Aside0.mk (below_step HB.out hb); have hcz7_0 : w6.cell? ⟨gb116, 0, none⟩ = some (.bool a0_0) := bc0 BK116.out; have hcz7_1 : w6.cell? ⟨gb116, 1, none⟩ = some (.slice A0_1 l0_1.length c0_1) := bc1 BK116.out; have hfz7_0 := blk_frozen BK116.out 0; have hfz7_1 := blk_frozen BK116.out 1; obtain ⟨Ao8, co8, eo8⟩ := Kd.R_slice HO120.out; subst eo8))
  go_ret
  exact ⟨by first | rfl | (simp [errW_none, errW_some] <;> rfl) | (refine congrArg (fun z_ => Ending.returned (Value.bool z_)) (decide_eq_decide.mpr ?_); unfold wrap64; omega) | (simp [*, errW_none, errW_some] <;> rfl), by repeat first | exact HB.out | refine bxSet ?_ (by assumption) | apply below_alloc | apply pw_below_drewN⟩
 ·replace c3 := Bool.eq_false_iff.mpr c3
  subst c3
  rw [if_neg (show ¬ (false = true) by decide)] at H
  by_cases c9 : (t118.length : Int) > 0
  ·rw [if_pos c9] at H
   have c9b0 : decide (0 < (t118.length : Int)) = true := decide_eq_true c9
   have c9b1 : decide (0 < t118.length) = true := decide_eq_true (by omega)
   clear c9
   obtain rfl := Option.some.inj H
   go_enter Try.func19, Try.ntmps19
   go_wp2_with (first | ((with_reducible refine gate_dst (N := 1) rfl ?_); refine box_event ?hg (N := 1) ?hd (cs := #[.bool a0_0, .slice A0_1 l0_1.length c0_1]) (t := 24) ?hr ?_; (case hd => rfl); (case hg => rfl); (case hr => first | (go_simp; done) | (go_simp; rfl)); intro gb116 hg w10 hbox hb; have BK116 := Aside0.mk (hbox); have GW116 := Aside0.mk (bxLe HB.out hg); have GE116 := GW116; replace HB := Aside0.mk (below_step HB.out hb); clear hb hbox hg; have hcz11_0 : w10.cell? ⟨gb116, 0, none⟩ = some (.bool a0_0) := bc0 BK116.out; have hcz11_1 : w10.cell? ⟨gb116, 1, none⟩ = some (.slice A0_1 l0_1.length c0_1) := bc1 BK116.out; have hfz11_0 := blk_frozen BK116.out 0; have hfz11_1 := blk_frozen BK116.out 1) | ((with_reducible refine gate_callee (f := 51) rfl ?_); refine goL (some 4) Try.func51 [.agg #[.bool a0_0, .slice A0_1 l0_1.length c0_1]] ?_; (with_reducible refine (whole_Norm.calls a0_0 _ _ l0_1 false t118 _ ?side1 ?side2 A2.out).mono ?_); (case side1 => exact (Kd.C_below HR0_1.out HB.out)); (case side2 => exact HC0_1.out); rintro e w12 ⟨v119, rfl, ho0, hb⟩; refine ⟨_, rfl, ?_⟩; have HO120 := Aside0.mk (Kd.R_lower ho0 (below_size HB.out)); replace BK116 := Aside0.mk (blk_below BK116.out hb); replace HB := Aside0.mk (below_step HB.out hb); have hcz13_0 : w12.cell? ⟨gb116, 0, none⟩ = some (.bool a0_0) := bc0 BK116.out; have hcz13_1 : w12.cell? ⟨gb116, 1, none⟩ = some (.slice A0_1 l0_1.length c0_1) := bc1 BK116.out; have hfz13_0 := blk_frozen BK116.out 0; have hfz13_1 := blk_frozen BK116.out 1; obtain ⟨Ao14, co14, eo14⟩ := Kd.R_slice HO120.out; subst eo14))
   go_ret
   exact ⟨by first | rfl | (simp [errW_none, errW_some] <;> rfl) | (refine congrArg (fun z_ => Ending.returned (Value.bool z_)) (decide_eq_decide.mpr ?_); unfold wrap64; omega) | (simp [*, errW_none, errW_some] <;> rfl), by repeat first | exact HB.out | refine bxSet ?_ (by assumption) | apply below_alloc | apply pw_below_drewN⟩
  ·rw [if_neg c9] at H
   have c9b0 : decide (0 < (t118.length : Int)) = false := decide_eq_false c9
   have c9b1 : decide (0 < t118.length) = false := decide_eq_false (by omega)
   clear c9
   obtain rfl := Option.some.inj H
   go_enter Try.func19, Try.ntmps19
   go_wp2_with (first | ((with_reducible refine gate_dst (N := 1) rfl ?_); refine box_event ?hg (N := 1) ?hd (cs := #[.bool a0_0, .slice A0_1 l0_1.length c0_1]) (t := 24) ?hr ?_; (case hd => rfl); (case hg => rfl); (case hr => first | (go_simp; done) | (go_simp; rfl)); intro gb116 hg w15 hbox hb; have BK116 := Aside0.mk (hbox); have GW116 := Aside0.mk (bxLe HB.out hg); have GE116 := GW116; replace HB := Aside0.mk (below_step HB.out hb); clear hb hbox hg; have hcz16_0 : w15.cell? ⟨gb116, 0, none⟩ = some (.bool a0_0) := bc0 BK116.out; have hcz16_1 : w15.cell? ⟨gb116, 1, none⟩ = some (.slice A0_1 l0_1.length c0_1) := bc1 BK116.out; have hfz16_0 := blk_frozen BK116.out 0; have hfz16_1 := blk_frozen BK116.out 1) | ((with_reducible refine gate_callee (f := 51) rfl ?_); refine goL (some 4) Try.func51 [.agg #[.bool a0_0, .slice A0_1 l0_1.length c0_1]] ?_; (with_reducible refine (whole_Norm.calls a0_0 _ _ l0_1 false t118 _ ?side1 ?side2 A2.out).mono ?_); (case side1 => exact (Kd.C_below HR0_1.out HB.out)); (case side2 => exact HC0_1.out); rintro e w17 ⟨v119, rfl, ho0, hb⟩; refine ⟨_, rfl, ?_⟩; have HO120 := Aside0.mk (Kd.R_lower ho0 (below_size HB.out)); replace BK116 := Aside0.mk (blk_below BK116.out hb); replace HB := Aside0.mk (below_step HB.out hb); have hcz18_0 : w17.cell? ⟨gb116, 0, none⟩ = some (.bool a0_0) := bc0 BK116.out; have hcz18_1 : w17.cell? ⟨gb116, 1, none⟩ = some (.slice A0_1 l0_1.length c0_1) := bc1 BK116.out; have hfz18_0 := blk_frozen BK116.out 0; have hfz18_1 := blk_frozen BK116.out 1; obtain ⟨Ao19, co19, eo19⟩ := Kd.R_slice HO120.out; subst eo19))
   go_ret
   exact ⟨by first | rfl | (simp [errW_none, errW_some] <;> rfl) | (refine congrArg (fun z_ => Ending.returned (Value.bool z_)) (decide_eq_decide.mpr ?_); unfold wrap64; omega) | (simp [*, errW_none, errW_some] <;> rfl), by repeat first | exact HB.out | refine bxSet ?_ (by assumption) | apply below_alloc | apply pw_below_drewN⟩

/-! ### nat_Of: function 64 -/
def nat_Of.f (a0 : Int) : Option (List Int) := (nat_Norm.f (([(a0) % 4294967296, (a0 / 4294967296) % 4294967296] : List Int))).bind fun t124 => (some t124)
set_option maxHeartbeats 8000000 in
set_option maxRecDepth 100000 in
theorem nat_Of.calls (a0 : Int) (r : List Int) (w : World) (h : nat_Of.f a0 = some r) :
  Calls Try.prog 64 #[.int .u64 a0] w fun e w' => ∃ v0_ : Value, e = .returned (v0_) ∧ Kd.R (Kd.int .u32) 81 w' w.heap.size (fun _ => True) v0_ r ∧ Below w.heap.size w w' := by
 have HB := Aside0.mk (Below.refl w.heap.size w)
 have H : ((nat_Norm.f (([(a0) % 4294967296, (a0 / 4294967296) % 4294967296] : List Int))).bind fun t124 => (some t124)) = some r := h
 clear h
 obtain ⟨y121, hy121⟩ : ∃ y_ : List Int, y_ = (([(a0) % 4294967296, (a0 / 4294967296) % 4294967296] : List Int)) := ⟨_, rfl⟩
 replace H : ((nat_Norm.f y121).bind fun t124 => (some t124)) = some r := by first | (rw [hy121]; with_reducible exact H) | (have H2_ := (Option.bind_some _ _).symm.trans H; rw [hy121]; with_reducible exact H2_) | (have H2_ := (Option.bind_some _ _).symm.trans H; with_reducible exact H2_) | with_reducible exact H | (rw [hy121]; exact H) | exact H
 have Ny121 := Aside0.mk hy121
 clear hy121
 obtain ⟨t124, A20, H⟩ := Option.bind_eq_some_iff.mp H
 try dsimp only at H
 have A2 := Aside0.mk A20
 clear A20
 obtain rfl := Option.some.inj H
 go_enter Try.func64, Try.ntmps64
 go_wp2_with (first | ((with_reducible refine gate_dst (N := 8) rfl ?_); refine Kd.R_lit (Kd.int .u32) _ 81 ?hg (N := 8) ?hd (xs := ([(a0) % 4294967296, (a0 / 4294967296) % 4294967296] : List Int)) (inner := [.int .u32 ((a0) % 4294967296), .int .u32 ((a0 / 4294967296) % 4294967296)]) (ok := fun _ => True) (okp := fun _ => True) ?hr ?hp (fun _ hk => hk) trivial (Below.refl _ _) (Nat.le_refl _) (by simp) ?_; (case hd => rfl); (case hg => rfl); (case hr => first | (go_simp; done) | (go_simp; rfl)); (case hp => exact (Reps.one (show Kd.M (Kd.int .u32) _ _ _ ((a0) % 4294967296) [.int .u32 ((a0) % 4294967296)] from rfl) (Reps.one (show Kd.M (Kd.int .u32) _ _ _ ((a0 / 4294967296) % 4294967296) [.int .u32 ((a0 / 4294967296) % 4294967296)] from rfl) (Reps.none _ _)))); intro v122 w3 ho4 hb hg_ hnew_; clear hg_ hnew_; (first | rw [← Ny121.out] at ho4 | (simp only [Int.reduceToNat] at ho4; rw [← Ny121.out] at ho4)); have HO123 := Aside0.mk (Kd.R_lower ho4 (below_size HB.out)); replace HB := Aside0.mk (below_step HB.out hb); clear hb ho4; obtain ⟨Ao5, co5, eo5⟩ := Kd.R_slice HO123.out; subst eo5) | ((with_reducible refine gate_callee (f := 83) rfl ?_); refine goL (some 9) Try.func83 [.slice Ao5 y121.length co5] ?_; (with_reducible refine (nat_Norm.calls _ _ y121 t124 _ ?side1 ?side2 A2.out).mono ?_); (case side1 => exact (Kd.R_reads' HO123.out).2.2); (case side2 => exact (Kd.R_reads' HO123.out).2.1); rintro e w6 ⟨v125, rfl, ho0, hb⟩; refine ⟨_, rfl, ?_⟩; have HO126 := Aside0.mk (Kd.R_lower (Kd.R_new' ho0 (Kd.R_lt HO123.out)) (below_size HB.out)); replace HB := Aside0.mk (below_step HB.out hb)))
 go_ret
 exact ⟨_, rfl, Kd.R_mono HO126.out (fun _ hk => trivial), HB.out⟩

/-! ### whole_Of: function 33 -/
def whole_Of.f (a0 : Int) : Option (Bool × List Int) := if a0 < 0 then ((nat_Of.f (IntKind.u64.wrap (-(IntKind.u64.wrap (a0))))).bind fun t128 => ((whole_made.f true t128).bind fun bt131 => (some (bt131.1, bt131.2)))) else ((nat_Of.f (IntKind.u64.wrap (a0))).bind fun t135 => ((whole_made.f false t135).bind fun bt138 => (some (bt138.1, bt138.2))))
set_option maxHeartbeats 8000000 in
set_option maxRecDepth 100000 in
theorem whole_Of.calls (a0 : Int) (r1 : Bool) (r2 : List Int) (w : World) (h : whole_Of.f a0 = some (r1, r2)) :
  Calls Try.prog 33 #[.int .i64 a0] w fun e w' => ∃ v1_ : Value, e = .returned (.agg #[.bool r1, v1_]) ∧ Kd.R (Kd.int .u32) 81 w' w.heap.size (fun _ => True) v1_ r2 ∧ Below w.heap.size w w' := by
 have hu24 := Try.underlying24
 have HB := Aside0.mk (Below.refl w.heap.size w)
 have H : (if a0 < 0 then ((nat_Of.f (IntKind.u64.wrap (-(IntKind.u64.wrap (a0))))).bind fun t128 => ((whole_made.f true t128).bind fun bt131 => (some (bt131.1, bt131.2)))) else ((nat_Of.f (IntKind.u64.wrap (a0))).bind fun t135 => ((whole_made.f false t135).bind fun bt138 => (some (bt138.1, bt138.2))))) = some (r1, r2) := h
 clear h
 by_cases c2 : a0 < 0
 ·rw [if_pos c2] at H
  have c2b0 : decide (a0 < 0) = true := decide_eq_true c2
  clear c2
  obtain ⟨t128, A30, H⟩ := Option.bind_eq_some_iff.mp H
  try dsimp only at H
  have A3 := Aside0.mk A30
  clear A30
  obtain ⟨⟨t131, t132⟩, A40, H⟩ := Option.bind_eq_some_iff.mp H
  try dsimp only at H
  have A4 := Aside0.mk A40
  clear A40
  simp only [Option.some.injEq, Prod.mk.injEq] at H
  obtain ⟨rfl, rfl⟩ := H
  go_enter Try.func33, Try.ntmps33
  go_wp2_with (first | ((with_reducible refine gate_dst (N := 2) rfl ?_); refine box_event ?hg (N := 2) ?hd (cs := #[.bool false, .slice none 0 0]) (t := 24) ?hr ?_; (case hd => rfl); (case hg => rfl); (case hr => first | (go_simp; done) | (go_simp; rfl)); intro gb127 hg w5 hbox hb; have BK127 := Aside0.mk (hbox); have GW127 := Aside0.mk (bxLe HB.out hg); have GE127 := GW127; replace HB := Aside0.mk (below_step HB.out hb); clear hb hbox hg) | ((with_reducible refine gate_callee (f := 64) rfl ?_); refine goL (some 8) Try.func64 [.int .u64 (IntKind.u64.wrap (-(IntKind.u64.wrap (a0))))] ?_; (with_reducible refine (nat_Of.calls (IntKind.u64.wrap (-(IntKind.u64.wrap (a0)))) t128 _ A3.out).mono ?_); rintro e w6 ⟨v129, rfl, ho0, hb⟩; refine ⟨_, rfl, ?_⟩; have HO130 := Aside0.mk (Kd.R_lower ho0 (below_size HB.out)); replace BK127 := Aside0.mk (blk_below BK127.out hb); replace HB := Aside0.mk (below_step HB.out hb); obtain ⟨Ao7, co7, eo7⟩ := Kd.R_slice HO130.out; subst eo7) | ((with_reducible refine gate_callee (f := 63) rfl ?_); refine goL (some 9) Try.func63 [.bool true, .slice Ao7 t128.length co7] ?_; (with_reducible refine (whole_made.calls true _ _ t128 t131 t132 _ ?side1 ?side2 A4.out).mono ?_); (case side1 => exact (Kd.R_reads' HO130.out).2.2); (case side2 => exact (Kd.R_reads' HO130.out).2.1); rintro e w8 ⟨v133, rfl, ho0, hb⟩; refine ⟨_, rfl, ?_⟩; have HO134 := Aside0.mk (Kd.R_lower (Kd.R_new' ho0 (Kd.R_lt HO130.out)) (below_size HB.out)); replace BK127 := Aside0.mk (blk_below BK127.out hb); replace HB := Aside0.mk (below_step HB.out hb); have hcz9_0 : w8.cell? ⟨gb127, 0, none⟩ = some (.bool false) := bc0 BK127.out; have hcz9_1 : w8.cell? ⟨gb127, 1, none⟩ = some (.slice none 0 0) := bc1 BK127.out; have hfz9_0 := blk_frozen BK127.out 0; have hfz9_1 := blk_frozen BK127.out 1; obtain ⟨Ao10, co10, eo10⟩ := Kd.R_slice HO134.out; subst eo10))
  refine bodyPost_ret (results_cell_row rfl _ _ gb127 24 #[.bool t131, .slice Ao10 t132.length co10] (0, 0) _ rfl (by refine blk_put (cs := #[.bool t131, .slice none 0 0]) ?_ 1 _ rfl; refine blk_put (cs := #[.bool false, .slice none 0 0]) ?_ 0 _ rfl; exact BK127.out) Try.underlying24 rfl (by kernel_rfl)) rfl ?_
  exact ⟨_, rfl, Kd.R_mono (Kd.R_far (p := ⟨gb127, 1, none⟩) (Kd.R_far (p := ⟨gb127, 0, none⟩) (Kd.R_types HO134.out BK127.out (by decide)) (fun _ hk => hk.2) (.bool t131)) (fun _ hk => hk.2) (.slice Ao10 t132.length co10)) (fun _ hk => trivial), by repeat first | exact HB.out | refine bxSet ?_ (by assumption) | apply below_alloc | apply pw_below_drewN⟩
 ·rw [if_neg c2] at H
  have c2b0 : decide (a0 < 0) = false := decide_eq_false c2
  clear c2
  obtain ⟨t135, A110, H⟩ := Option.bind_eq_some_iff.mp H
  try dsimp only at H
  have A11 := Aside0.mk A110
  clear A110
  obtain ⟨⟨t138, t139⟩, A120, H⟩ := Option.bind_eq_some_iff.mp H
  try dsimp only at H
  have A12 := Aside0.mk A120
  clear A120
  simp only [Option.some.injEq, Prod.mk.injEq] at H
  obtain ⟨rfl, rfl⟩ := H
  go_enter Try.func33, Try.ntmps33
  go_wp2_with (first | ((with_reducible refine gate_dst (N := 2) rfl ?_); refine box_event ?hg (N := 2) ?hd (cs := #[.bool false, .slice none 0 0]) (t := 24) ?hr ?_; (case hd => rfl); (case hg => rfl); (case hr => first | (go_simp; done) | (go_simp; rfl)); intro gb127 hg w13 hbox hb; have BK127 := Aside0.mk (hbox); have GW127 := Aside0.mk (bxLe HB.out hg); have GE127 := GW127; replace HB := Aside0.mk (below_step HB.out hb); clear hb hbox hg) | ((with_reducible refine gate_callee (f := 64) rfl ?_); refine goL (some 12) Try.func64 [.int .u64 (IntKind.u64.wrap (a0))] ?_; (with_reducible refine (nat_Of.calls (IntKind.u64.wrap (a0)) t135 _ A11.out).mono ?_); rintro e w14 ⟨v136, rfl, ho0, hb⟩; refine ⟨_, rfl, ?_⟩; have HO137 := Aside0.mk (Kd.R_lower ho0 (below_size HB.out)); replace BK127 := Aside0.mk (blk_below BK127.out hb); replace HB := Aside0.mk (below_step HB.out hb); obtain ⟨Ao15, co15, eo15⟩ := Kd.R_slice HO137.out; subst eo15) | ((with_reducible refine gate_callee (f := 63) rfl ?_); refine goL (some 13) Try.func63 [.bool false, .slice Ao15 t135.length co15] ?_; (with_reducible refine (whole_made.calls false _ _ t135 t138 t139 _ ?side1 ?side2 A12.out).mono ?_); (case side1 => exact (Kd.R_reads' HO137.out).2.2); (case side2 => exact (Kd.R_reads' HO137.out).2.1); rintro e w16 ⟨v140, rfl, ho0, hb⟩; refine ⟨_, rfl, ?_⟩; have HO141 := Aside0.mk (Kd.R_lower (Kd.R_new' ho0 (Kd.R_lt HO137.out)) (below_size HB.out)); replace BK127 := Aside0.mk (blk_below BK127.out hb); replace HB := Aside0.mk (below_step HB.out hb); have hcz17_0 : w16.cell? ⟨gb127, 0, none⟩ = some (.bool false) := bc0 BK127.out; have hcz17_1 : w16.cell? ⟨gb127, 1, none⟩ = some (.slice none 0 0) := bc1 BK127.out; have hfz17_0 := blk_frozen BK127.out 0; have hfz17_1 := blk_frozen BK127.out 1; obtain ⟨Ao18, co18, eo18⟩ := Kd.R_slice HO141.out; subst eo18))
  refine bodyPost_ret (results_cell_row rfl _ _ gb127 24 #[.bool t138, .slice Ao18 t139.length co18] (0, 0) _ rfl (by refine blk_put (cs := #[.bool t138, .slice none 0 0]) ?_ 1 _ rfl; refine blk_put (cs := #[.bool false, .slice none 0 0]) ?_ 0 _ rfl; exact BK127.out) Try.underlying24 rfl (by kernel_rfl)) rfl ?_
  exact ⟨_, rfl, Kd.R_mono (Kd.R_far (p := ⟨gb127, 1, none⟩) (Kd.R_far (p := ⟨gb127, 0, none⟩) (Kd.R_types HO141.out BK127.out (by decide)) (fun _ hk => hk.2) (.bool t138)) (fun _ hk => hk.2) (.slice Ao18 t139.length co18)) (fun _ hk => trivial), by repeat first | exact HB.out | refine bxSet ?_ (by assumption) | apply below_alloc | apply pw_below_drewN⟩

/-! ### nat_Mul: function 65 -/
mutual
def nat_Mul.l0 : Nat → List Int → List Int → List Int → Int → Int → Option (List Int)
 | 0, _, _, _, _, _ => none
 | k + 1, x1, x5, x16, x17, x18 => if x18 < x17 then (if 0 ≤ x18 then (if x18 < (x16.length : Int) then (nat_Mul.l1 k x1 x5 x18 (rd x16 x18) 0 x16 x17 x18 (x1.length : Int) 0) else (none)) else (none)) else ((nat_Norm.f x5).bind fun t145 => (some t145))
def nat_Mul.l1 : Nat → List Int → List Int → Int → Int → Int → List Int → Int → Int → Int → Int → Option (List Int)
 | 0, _, _, _, _, _, _, _, _, _, _ => none
 | k + 1, x1, x5, x6, x7, x8, x16, x17, x18, x24, x25 => if x25 < x24 then (if 0 ≤ x25 then (if x25 < (x1.length : Int) then (if 0 ≤ (wrap64 (x6 + x25)) then (if (wrap64 (x6 + x25)) < (x5.length : Int) then (nat_Mul.l1 k x1 (x5.set ((wrap64 (x6 + x25)) : Int).toNat ((IntKind.u64.wrap (x8 + (IntKind.u64.wrap ((IntKind.u64.wrap ((IntKind.u64.wrap (x7)) * (IntKind.u64.wrap (rd x1 x25)))) + (IntKind.u64.wrap (rd x5 (wrap64 (x6 + x25)))))))) % 4294967296)) x6 x7 ((IntKind.u64.wrap (x8 + (IntKind.u64.wrap ((IntKind.u64.wrap ((IntKind.u64.wrap (x7)) * (IntKind.u64.wrap (rd x1 x25)))) + (IntKind.u64.wrap (rd x5 (wrap64 (x6 + x25)))))))) / 4294967296) x16 x17 x18 x24 (wrap64 (x25 + 1))) else (none)) else (none)) else (none)) else (none)) else (if 0 ≤ (wrap64 (x6 + (x1.length : Int))) then (if (wrap64 (x6 + (x1.length : Int))) < (x5.length : Int) then (nat_Mul.l0 k x1 (x5.set ((wrap64 (x6 + (x1.length : Int))) : Int).toNat ((x8) % 4294967296)) x16 x17 (wrap64 (x18 + 1))) else (none)) else (none))
end
def nat_Mul.f (k : Nat) (l0 : List Int) (l1 : List Int) : Option (List Int) := if 0 ≤ (wrap64 ((l0.length : Int) + (l1.length : Int))) then (if (wrap64 ((l0.length : Int) + (l1.length : Int)) : Int).toNat ≤ 70368744177664 then (nat_Mul.l0 k l1 (List.replicate (wrap64 ((l0.length : Int) + (l1.length : Int)) : Int).toNat 0) l0 (l0.length : Int) 0) else (none)) else (none)
set_option maxHeartbeats 8000000 in
set_option maxRecDepth 100000 in
theorem nat_Mul.calls (k : Nat) (A0 : Option Addr) (c0 : Nat) (l0 : List Int) (A1 : Option Addr) (c1 : Nat) (l1 : List Int) (r : List Int) (w : World) (hr0 : Kd.C (Kd.int .u32) w A0 l0.length l0) (hc0 : l0.length ≤ c0) (hr1 : Kd.C (Kd.int .u32) w A1 l1.length l1) (hc1 : l1.length ≤ c1) (h : nat_Mul.f k l0 l1 = some r) :
  Calls Try.prog 65 #[.slice A0 l0.length c0, .slice A1 l1.length c1] w fun e w' => ∃ v0_ : Value, e = .returned (v0_) ∧ Kd.R (Kd.int .u32) 81 w' w.heap.size (fun _ => True) v0_ r ∧ Below w.heap.size w w' := by
 have HR0 := Aside0.mk hr0
 have HC0 := Aside0.mk hc0
 clear hr0 hc0
 have HR1 := Aside0.mk hr1
 have HC1 := Aside0.mk hc1
 clear hr1 hc1
 have HB := Aside0.mk (Below.refl w.heap.size w)
 have H : (if 0 ≤ (wrap64 ((l0.length : Int) + (l1.length : Int))) then (if (wrap64 ((l0.length : Int) + (l1.length : Int)) : Int).toNat ≤ 70368744177664 then (nat_Mul.l0 k l1 (List.replicate (wrap64 ((l0.length : Int) + (l1.length : Int)) : Int).toNat 0) l0 (l0.length : Int) 0) else (none)) else (none)) = some r := h
 clear h
 obtain ⟨ji3, hji3⟩ : ∃ j_ : Int, (wrap64 ((l0.length : Int) + (l1.length : Int))) = j_ := ⟨_, rfl⟩
 replace H : (if 0 ≤ (ji3) then (if (ji3 : Int).toNat ≤ 70368744177664 then (nat_Mul.l0 k l1 (List.replicate (ji3 : Int).toNat 0) l0 (l0.length : Int) 0) else (none)) else (none)) = some r := by first | (rw [hji3] at H; exact H) | (simp only [hji3] at H ⊢; exact H)
 have hji3w : (IntKind.i64.wrap ((l0.length : Int) + (l1.length : Int))) = ji3 := (i64_w _).trans hji3
 by_cases c4 : 0 ≤ (ji3)
 ·rw [if_pos c4] at H
  have c4b0 := eq_true c4
  have c4b1 : decide (0 ≤ (ji3)) = true := decide_eq_true c4
  clear c4
  by_cases c5 : (ji3 : Int).toNat ≤ 70368744177664
  ·rw [if_pos c5] at H
   have c5b0 := eq_true c5
   have c5b1 : decide ((ji3 : Int).toNat ≤ 70368744177664) = true := decide_eq_true c5
   clear c5
   obtain ⟨y142, hy142⟩ : ∃ y_ : List Int, y_ = (List.replicate (ji3 : Int).toNat 0) := ⟨_, rfl⟩
   replace H : (nat_Mul.l0 k l1 y142 l0 (l0.length : Int) 0) = some r := by first | (rw [hy142]; with_reducible exact H) | (have H2_ := (Option.bind_some _ _).symm.trans H; rw [hy142]; with_reducible exact H2_) | (have H2_ := (Option.bind_some _ _).symm.trans H; with_reducible exact H2_) | with_reducible exact H | (rw [hy142]; exact H) | exact H
   have Ny142 := Aside0.mk hy142
   clear hy142
   have H' := Aside0.mk H
   clear H
   go_enter Try.func65, Try.ntmps65
   go_wp2_with (first | ((with_reducible refine gate_dst (N := 15) rfl ?_); refine Kd.R_make (Kd.int .u32) _ 81 rfl (N := 15) rfl 22 _ _ rfl ji3 rfl rfl Try.underlying22 (.int .u32 0) 4 info81 rfl (by decide) (by omega) 0 (ok := fun _ => True) (okp := fun _ => True) rfl (fun _ hk => hk) trivial (of_decide_eq_true (by first | (with_reducible assumption) | assumption)) (Nat.le_trans (Nat.mul_le_mul_right _ (of_decide_eq_true (by first | (with_reducible assumption) | assumption) : ji3.toNat ≤ 70368744177664)) (by omega)) (Below.refl _ _) (Nat.le_refl _) ?_; intro v143 w6 ho7 hb hg_ hnew_; clear hg_ hnew_; (first | rw [← Ny142.out] at ho7 | (simp only [Int.reduceToNat] at ho7; rw [← Ny142.out] at ho7)); have HO144 := Aside0.mk (Kd.R_lower ho7 (below_size HB.out)); replace HB := Aside0.mk (below_step HB.out hb); clear hb ho7))
   repeat (go_quiet (first | ((with_reducible refine gate_dst (N := 15) rfl ?_); refine Kd.R_make (Kd.int .u32) _ 81 rfl (N := 15) rfl 22 _ _ rfl ji3 rfl rfl Try.underlying22 (.int .u32 0) 4 info81 rfl (by decide) (by omega) 0 (ok := fun _ => True) (okp := fun _ => True) rfl (fun _ hk => hk) trivial (of_decide_eq_true (by first | (with_reducible assumption) | assumption)) (Nat.le_trans (Nat.mul_le_mul_right _ (of_decide_eq_true (by first | (with_reducible assumption) | assumption) : ji3.toNat ≤ 70368744177664)) (by omega)) (Below.refl _ _) (Nat.le_refl _) ?_; intro v143 w6 ho7 hb hg_ hnew_; clear hg_ hnew_; (first | rw [← Ny142.out] at ho7 | (simp only [Int.reduceToNat] at ho7; rw [← Ny142.out] at ho7)); have HO144 := Aside0.mk (Kd.R_lower ho7 (below_size HB.out)); replace HB := Aside0.mk (below_step HB.out hb); clear hb ho7)); try go_wp2_with (first | ((with_reducible refine gate_dst (N := 15) rfl ?_); refine Kd.R_make (Kd.int .u32) _ 81 rfl (N := 15) rfl 22 _ _ rfl ji3 rfl rfl Try.underlying22 (.int .u32 0) 4 info81 rfl (by decide) (by omega) 0 (ok := fun _ => True) (okp := fun _ => True) rfl (fun _ hk => hk) trivial (of_decide_eq_true (by first | (with_reducible assumption) | assumption)) (Nat.le_trans (Nat.mul_le_mul_right _ (of_decide_eq_true (by first | (with_reducible assumption) | assumption) : ji3.toNat ≤ 70368744177664)) (by omega)) (Below.refl _ _) (Nat.le_refl _) ?_; intro v143 w6 ho7 hb hg_ hnew_; clear hg_ hnew_; (first | rw [← Ny142.out] at ho7 | (simp only [Int.reduceToNat] at ho7; rw [← Ny142.out] at ho7)); have HO144 := Aside0.mk (Kd.R_lower ho7 (below_size HB.out)); replace HB := Aside0.mk (below_step HB.out hb); clear hb ho7)))
   go_loopg [18] k (fun kq v18 w' => ∃ (x5_1 : List Int) (x18_1 : Int), v18 = .int .i64 x18_1 ∧ Aside0 (nat_Mul.l0 kq l1 x5_1 l0 (l0.length : Int) x18_1 = some r) ∧ Aside0 (kq ≤ k) ∧ Aside0 (Kd.R (Kd.int .u32) 81 w' w.heap.size (fun _ => True) v143 x5_1) ∧ Aside0 (Below w.heap.size w w'))
   case atStart => exact ⟨(y142), (0), (by first | rfl | (simp; done)), H', ⟨Nat.le_refl _⟩, ⟨HO144.out⟩, ⟨HB.out⟩⟩
   case round =>
    clear H'
    try clear c1
    try clear p2
    try clear c4
    try clear c4b0
    try clear c4b1
    try clear c5
    try clear c5b0
    try clear c5b1
    try clear c6
    try clear p6
    obtain ⟨x5_1, x18_1, rfl, HA, HK1, HO_5, HB⟩ := hrel
    cases gk with
    | zero => exact absurd HA.out (by simp [nat_Mul.l0])
    | succ k1 =>
     have H := HA.out
     clear HA
     simp only [nat_Mul.l0] at H
     by_cases c8 : x18_1 < (l0.length : Int)
     ·rw [if_pos c8] at H
      have c8b0 : decide (x18_1 < (l0.length : Int)) = true := decide_eq_true c8
      clear c8
      by_cases c9 : 0 ≤ x18_1
      ·rw [if_pos c9] at H
       have c9b0 : decide (0 ≤ x18_1) = true := decide_eq_true c9
       clear c9
       by_cases c10 : x18_1 < (l0.length : Int)
       ·rw [if_pos c10] at H
        have c10b0 : decide (x18_1 < (l0.length : Int)) = true := decide_eq_true c10
        clear c10
        have H' := Aside0.mk H
        clear H
        have p148 : 0 ≤ (x18_1 : Int) := of_decide_eq_true (by first | (with_reducible assumption) | assumption)
        have q148 : x18_1 < (l0.length : Int) := of_decide_eq_true (by first | (with_reducible assumption) | assumption)
        obtain ⟨ad148, e148, hx148_0⟩ := Kd.at_int HR0.out x18_1 p148 q148
        cases e148
        replace hx148_0 := (HB.out.cell (World.block_lt_of_cell? w _ hx148_0)).trans hx148_0
        replace p148 := eq_true p148
        replace q148 := eq_true q148
        go_wp2
        repeat (go_quiet (fail); try go_wp2)
        go_loopg [8, 25] k1 (fun kq v8 v25 w' => ∃ (x5_2 : List Int) (x8_2 : Int) (x25_2 : Int), v8 = .int .u64 x8_2 ∧ v25 = .int .i64 x25_2 ∧ Aside0 (nat_Mul.l1 kq l1 x5_2 x18_1 (rd l0 x18_1) x8_2 l0 (l0.length : Int) x18_1 (l1.length : Int) x25_2 = some r) ∧ Aside0 (kq ≤ k1) ∧ Aside0 (Kd.R (Kd.int .u32) 81 w' w.heap.size (fun _ => True) v143 x5_2) ∧ Aside0 (Below w.heap.size w w'))
        case atStart => exact ⟨(x5_1), (0), (0), (by first | rfl | (simp; done)), (by first | rfl | (simp; done)), H', ⟨Nat.le_refl _⟩, ⟨HO_5.out⟩, ⟨HB.out⟩⟩
        case round =>
         clear H'
         try clear c1
         try clear p1
         try clear q1
         try clear hx1
         try clear p2
         try clear c4
         try clear c4b0
         try clear c4b1
         try clear c5
         try clear c5b0
         try clear c5b1
         try clear c6
         try clear p6
         try clear c8
         try clear c8b0
         try clear c9
         try clear c9b0
         try clear c10
         try clear c10b0
         try clear hx148_0
         try clear p148
         try clear p2
         try clear p6
         try clear q148
         obtain ⟨x5_2, x8_2, x25_2, rfl, rfl, HA, HK2, HO_5, HB⟩ := hrel
         cases gk with
         | zero => exact absurd HA.out (by simp [nat_Mul.l1])
         | succ k2 =>
          have H := HA.out
          clear HA
          simp only [nat_Mul.l1] at H
          by_cases c11 : x25_2 < (l1.length : Int)
          ·rw [if_pos c11] at H
           have c11b0 : decide (x25_2 < (l1.length : Int)) = true := decide_eq_true c11
           clear c11
           by_cases c12 : 0 ≤ x25_2
           ·rw [if_pos c12] at H
            have c12b0 : decide (0 ≤ x25_2) = true := decide_eq_true c12
            clear c12
            by_cases c13 : x25_2 < (l1.length : Int)
            ·rw [if_pos c13] at H
             have c13b0 : decide (x25_2 < (l1.length : Int)) = true := decide_eq_true c13
             clear c13
             obtain ⟨ji14, hji14⟩ : ∃ j_ : Int, (wrap64 (x18_1 + x25_2)) = j_ := ⟨_, rfl⟩
             replace H : (if 0 ≤ (ji14) then (if (ji14) < (x5_2.length : Int) then (nat_Mul.l1 k2 l1 (x5_2.set ((ji14) : Int).toNat ((IntKind.u64.wrap (x8_2 + (IntKind.u64.wrap ((IntKind.u64.wrap ((IntKind.u64.wrap ((rd l0 x18_1))) * (IntKind.u64.wrap (rd l1 x25_2)))) + (IntKind.u64.wrap (rd x5_2 (ji14))))))) % 4294967296)) x18_1 (rd l0 x18_1) ((IntKind.u64.wrap (x8_2 + (IntKind.u64.wrap ((IntKind.u64.wrap ((IntKind.u64.wrap ((rd l0 x18_1))) * (IntKind.u64.wrap (rd l1 x25_2)))) + (IntKind.u64.wrap (rd x5_2 (ji14))))))) / 4294967296) l0 (l0.length : Int) x18_1 (l1.length : Int) (wrap64 (x25_2 + 1))) else (none)) else (none)) = some r := by first | (rw [hji14] at H; exact H) | (simp only [hji14] at H ⊢; exact H)
             have hji14w : (IntKind.i64.wrap (x18_1 + x25_2)) = ji14 := (i64_w _).trans hji14
             by_cases c15 : 0 ≤ (ji14)
             ·rw [if_pos c15] at H
              have c15b0 : decide (0 ≤ (ji14)) = true := decide_eq_true c15
              clear c15
              by_cases c16 : (ji14) < (x5_2.length : Int)
              ·rw [if_pos c16] at H
               have c16b0 : decide ((ji14) < (x5_2.length : Int)) = true := decide_eq_true c16
               clear c16
               obtain ⟨y151, hy151⟩ : ∃ y_ : List Int, y_ = (x5_2.set ((ji14) : Int).toNat ((IntKind.u64.wrap (x8_2 + (IntKind.u64.wrap ((IntKind.u64.wrap ((IntKind.u64.wrap ((rd l0 x18_1))) * (IntKind.u64.wrap (rd l1 x25_2)))) + (IntKind.u64.wrap (rd x5_2 (ji14))))))) % 4294967296)) := ⟨_, rfl⟩
               replace H : (nat_Mul.l1 k2 l1 y151 x18_1 (rd l0 x18_1) ((IntKind.u64.wrap (x8_2 + (IntKind.u64.wrap ((IntKind.u64.wrap ((IntKind.u64.wrap ((rd l0 x18_1))) * (IntKind.u64.wrap (rd l1 x25_2)))) + (IntKind.u64.wrap (rd x5_2 (ji14))))))) / 4294967296) l0 (l0.length : Int) x18_1 (l1.length : Int) (wrap64 (x25_2 + 1))) = some r := by first | (rw [hy151]; with_reducible exact H) | (have H2_ := (Option.bind_some _ _).symm.trans H; rw [hy151]; with_reducible exact H2_) | (have H2_ := (Option.bind_some _ _).symm.trans H; with_reducible exact H2_) | with_reducible exact H | (rw [hy151]; exact H) | exact H
               have Ny151 := Aside0.mk hy151
               clear hy151
               have H' := Aside0.mk H
               clear H
               have p149 : 0 ≤ (x25_2 : Int) := of_decide_eq_true (by first | (with_reducible assumption) | assumption)
               have q149 : x25_2 < (l1.length : Int) := of_decide_eq_true (by first | (with_reducible assumption) | assumption)
               obtain ⟨ad149, e149, hx149_0⟩ := Kd.at_int HR1.out x25_2 p149 q149
               cases e149
               replace hx149_0 := (HB.out.cell (World.block_lt_of_cell? w _ hx149_0)).trans hx149_0
               replace p149 := eq_true p149
               replace q149 := eq_true q149
               obtain ⟨Ao18, co18, eo18⟩ := Kd.R_slice HO_5.out
               subst eo18
               have p150 : 0 ≤ ((ji14) : Int) := of_decide_eq_true (by first | (with_reducible assumption) | assumption)
               have q150 : (ji14) < (x5_2.length : Int) := of_decide_eq_true (by first | (with_reducible assumption) | assumption)
               obtain ⟨ad150, e150, hx150_0⟩ := Kd.at_int (Kd.R_reads' HO_5.out).2.2 (ji14) p150 q150
               cases e150
               replace p150 := eq_true p150
               replace q150 := eq_true q150
               have p17 : 0 ≤ ((ji14) : Int) := of_decide_eq_true (by first | (with_reducible assumption) | assumption)
               have q17 : ((ji14) : Int) < ((x5_2.length : Int) : Int) := of_decide_eq_true (by first | (with_reducible assumption) | assumption)
               obtain ⟨go17, co17, eo17, gb17, gl17, cl17, HG17⟩ := Kd.R_form HO_5.out (by omega)
               (first | cases eo17 | (injection eo17 with ea_ en_ ec_; (first | subst ea_ | (injection ea_ with ea_; subst ea_)); subst ec_; clear en_))
               have GB17 := Aside0.mk gb17
               have GG17 := Aside0.mk HG17
               clear gb17 gl17 HG17
               (first | simp only [add_plain] at hx150_0 | skip)
               obtain ⟨hx17_0, hf17_0⟩ := Kd.R_celln 0 HO_5.out ((ji14) : Int) p17 q17
               replace p17 := eq_true p17
               replace q17 := eq_true q17
               have HP19 := Kd.R_putg HO_5.out ((ji14) : Int) ((IntKind.u64.wrap (x8_2 + (IntKind.u64.wrap ((IntKind.u64.wrap ((IntKind.u64.wrap ((rd l0 x18_1))) * (IntKind.u64.wrap (rd l1 x25_2)))) + (IntKind.u64.wrap (rd x5_2 (ji14))))))) % 4294967296)
               go_wp2_with (first | ((with_reducible refine gate_store (t := 81) (p := 52) rfl ?_); (try (rw [drewN_self wr]; generalize hq_ : World.drewN wr _ = wr; have n0_ := Aside0.mk (Kd.R_at hq_ HO_5.out); have n1_ := Aside0.mk (below_at hq_ HB.out); clear hq_ HO_5 HB; have HO_5 := n0_; have HB := n1_; clear n0_ n1_; (try (obtain ⟨hx17_0, hf17_0⟩ := Kd.R_celln 0 HO_5.out ((ji14) : Int) (of_eq_true p17) (of_eq_true q17))); (try (have HP19 := Kd.R_putg HO_5.out ((ji14) : Int) ((IntKind.u64.wrap (x8_2 + (IntKind.u64.wrap ((IntKind.u64.wrap ((IntKind.u64.wrap ((rd l0 x18_1))) * (IntKind.u64.wrap (rd l1 x25_2)))) + (IntKind.u64.wrap (rd x5_2 (ji14))))))) % 4294967296))))); refine store_event (t := 81) (p := 52) (v := ?vo_w20) (w1 := (wr.setCell ⟨go17, ((ji14) : Int).toNat, none⟩ (.int .u32 ((IntKind.u64.wrap (x8_2 + (IntKind.u64.wrap ((IntKind.u64.wrap ((IntKind.u64.wrap ((rd l0 x18_1))) * (IntKind.u64.wrap (rd l1 x25_2)))) + (IntKind.u64.wrap (rd x5_2 (ji14))))))) % 4294967296)))) ?hg ?ho ?hn ?hr ?_; (case ho => rfl); (case hg => rfl); (case hn => rfl); (case hr => first | (go_simp; done) | (go_simp; rfl)); intro w20 hw; have hg : wr.grownBy w20 (some go17) := (by rw [hw]; exact HP19.2); have hp_ : Kd.R (Kd.int .u32) 81 w20 w.heap.size (fun _ => True) (.slice (some ⟨go17, 0, none⟩) x5_2.length co18) y151 := (by rw [hw, Ny151.out]; exact HP19.1); clear HP19; replace HO_5 := Aside0.mk (hp_); replace HB := Aside0.mk ((by rw [hw]; exact below_set (HB.out) GB17.out : Below w.heap.size w w20)); clear hg hw hp_))
               repeat (go_quiet (first | ((with_reducible refine gate_store (t := 81) (p := 52) rfl ?_); (try (rw [drewN_self wr]; generalize hq_ : World.drewN wr _ = wr; have n0_ := Aside0.mk (Kd.R_at hq_ HO_5.out); have n1_ := Aside0.mk (below_at hq_ HB.out); clear hq_ HO_5 HB; have HO_5 := n0_; have HB := n1_; clear n0_ n1_; (try (obtain ⟨hx17_0, hf17_0⟩ := Kd.R_celln 0 HO_5.out ((ji14) : Int) (of_eq_true p17) (of_eq_true q17))); (try (have HP19 := Kd.R_putg HO_5.out ((ji14) : Int) ((IntKind.u64.wrap (x8_2 + (IntKind.u64.wrap ((IntKind.u64.wrap ((IntKind.u64.wrap ((rd l0 x18_1))) * (IntKind.u64.wrap (rd l1 x25_2)))) + (IntKind.u64.wrap (rd x5_2 (ji14))))))) % 4294967296))))); refine store_event (t := 81) (p := 52) (v := ?vo_w20) (w1 := (wr.setCell ⟨go17, ((ji14) : Int).toNat, none⟩ (.int .u32 ((IntKind.u64.wrap (x8_2 + (IntKind.u64.wrap ((IntKind.u64.wrap ((IntKind.u64.wrap ((rd l0 x18_1))) * (IntKind.u64.wrap (rd l1 x25_2)))) + (IntKind.u64.wrap (rd x5_2 (ji14))))))) % 4294967296)))) ?hg ?ho ?hn ?hr ?_; (case ho => rfl); (case hg => rfl); (case hn => rfl); (case hr => first | (go_simp; done) | (go_simp; rfl)); intro w20 hw; have hg : wr.grownBy w20 (some go17) := (by rw [hw]; exact HP19.2); have hp_ : Kd.R (Kd.int .u32) 81 w20 w.heap.size (fun _ => True) (.slice (some ⟨go17, 0, none⟩) x5_2.length co18) y151 := (by rw [hw, Ny151.out]; exact HP19.1); clear HP19; replace HO_5 := Aside0.mk (hp_); replace HB := Aside0.mk ((by rw [hw]; exact below_set (HB.out) GB17.out : Below w.heap.size w w20)); clear hg hw hp_)); try go_wp2_with (first | ((with_reducible refine gate_store (t := 81) (p := 52) rfl ?_); (try (rw [drewN_self wr]; generalize hq_ : World.drewN wr _ = wr; have n0_ := Aside0.mk (Kd.R_at hq_ HO_5.out); have n1_ := Aside0.mk (below_at hq_ HB.out); clear hq_ HO_5 HB; have HO_5 := n0_; have HB := n1_; clear n0_ n1_; (try (obtain ⟨hx17_0, hf17_0⟩ := Kd.R_celln 0 HO_5.out ((ji14) : Int) (of_eq_true p17) (of_eq_true q17))); (try (have HP19 := Kd.R_putg HO_5.out ((ji14) : Int) ((IntKind.u64.wrap (x8_2 + (IntKind.u64.wrap ((IntKind.u64.wrap ((IntKind.u64.wrap ((rd l0 x18_1))) * (IntKind.u64.wrap (rd l1 x25_2)))) + (IntKind.u64.wrap (rd x5_2 (ji14))))))) % 4294967296))))); refine store_event (t := 81) (p := 52) (v := ?vo_w20) (w1 := (wr.setCell ⟨go17, ((ji14) : Int).toNat, none⟩ (.int .u32 ((IntKind.u64.wrap (x8_2 + (IntKind.u64.wrap ((IntKind.u64.wrap ((IntKind.u64.wrap ((rd l0 x18_1))) * (IntKind.u64.wrap (rd l1 x25_2)))) + (IntKind.u64.wrap (rd x5_2 (ji14))))))) % 4294967296)))) ?hg ?ho ?hn ?hr ?_; (case ho => rfl); (case hg => rfl); (case hn => rfl); (case hr => first | (go_simp; done) | (go_simp; rfl)); intro w20 hw; have hg : wr.grownBy w20 (some go17) := (by rw [hw]; exact HP19.2); have hp_ : Kd.R (Kd.int .u32) 81 w20 w.heap.size (fun _ => True) (.slice (some ⟨go17, 0, none⟩) x5_2.length co18) y151 := (by rw [hw, Ny151.out]; exact HP19.1); clear HP19; replace HO_5 := Aside0.mk (hp_); replace HB := Aside0.mk ((by rw [hw]; exact below_set (HB.out) GB17.out : Below w.heap.size w w20)); clear hg hw hp_)))
               go_roundg k2
               case measure => have := HK1.out; have := HK2.out; omega
               case rel => exact ⟨(y151), ((IntKind.u64.wrap (x8_2 + (IntKind.u64.wrap ((IntKind.u64.wrap ((IntKind.u64.wrap ((rd l0 x18_1))) * (IntKind.u64.wrap (rd l1 x25_2)))) + (IntKind.u64.wrap (rd x5_2 (ji14))))))) / 4294967296), (wrap64 (x25_2 + 1)), (by first | rfl | (simp; done) | (simp only [← hji14] <;> (first | rfl | simp)) | (simp [*]; done)), (by first | rfl | (simp; done)), H', ⟨by have := HK1.out; have := HK2.out; omega⟩, ⟨HO_5.out⟩, ⟨HB.out⟩⟩
              ·rw [if_neg c16] at H
               exact absurd H (by simp)
             ·rw [if_neg c15] at H
              exact absurd H (by simp)
            ·rw [if_neg c13] at H
             exact absurd H (by simp)
           ·rw [if_neg c12] at H
            exact absurd H (by simp)
          ·rw [if_neg c11] at H
           have c11b0 : decide (x25_2 < (l1.length : Int)) = false := decide_eq_false c11
           clear c11
           obtain ⟨ji21, hji21⟩ : ∃ j_ : Int, (wrap64 (x18_1 + (l1.length : Int))) = j_ := ⟨_, rfl⟩
           replace H : (if 0 ≤ (ji21) then (if (ji21) < (x5_2.length : Int) then (nat_Mul.l0 k2 l1 (x5_2.set ((ji21) : Int).toNat ((x8_2) % 4294967296)) l0 (l0.length : Int) (wrap64 (x18_1 + 1))) else (none)) else (none)) = some r := by first | (rw [hji21] at H; exact H) | (simp only [hji21] at H ⊢; exact H)
           have hji21w : (IntKind.i64.wrap (x18_1 + (l1.length : Int))) = ji21 := (i64_w _).trans hji21
           by_cases c22 : 0 ≤ (ji21)
           ·rw [if_pos c22] at H
            have c22b0 : decide (0 ≤ (ji21)) = true := decide_eq_true c22
            clear c22
            by_cases c23 : (ji21) < (x5_2.length : Int)
            ·rw [if_pos c23] at H
             have c23b0 : decide ((ji21) < (x5_2.length : Int)) = true := decide_eq_true c23
             clear c23
             obtain ⟨y152, hy152⟩ : ∃ y_ : List Int, y_ = (x5_2.set ((ji21) : Int).toNat ((x8_2) % 4294967296)) := ⟨_, rfl⟩
             replace H : (nat_Mul.l0 k2 l1 y152 l0 (l0.length : Int) (wrap64 (x18_1 + 1))) = some r := by first | (rw [hy152]; with_reducible exact H) | (have H2_ := (Option.bind_some _ _).symm.trans H; rw [hy152]; with_reducible exact H2_) | (have H2_ := (Option.bind_some _ _).symm.trans H; with_reducible exact H2_) | with_reducible exact H | (rw [hy152]; exact H) | exact H
             have Ny152 := Aside0.mk hy152
             clear hy152
             have H' := Aside0.mk H
             clear H
             have p24 : 0 ≤ ((ji21) : Int) := of_decide_eq_true (by first | (with_reducible assumption) | assumption)
             have q24 : ((ji21) : Int) < ((x5_2.length : Int) : Int) := of_decide_eq_true (by first | (with_reducible assumption) | assumption)
             obtain ⟨go24, co24, eo24, gb24, gl24, cl24, HG24⟩ := Kd.R_form HO_5.out (by omega)
             (first | cases eo24 | (injection eo24 with ea_ en_ ec_; (first | subst ea_ | (injection ea_ with ea_; subst ea_)); subst ec_; clear en_))
             have GB24 := Aside0.mk gb24
             have GG24 := Aside0.mk HG24
             clear gb24 gl24 HG24
             obtain ⟨hx24_0, hf24_0⟩ := Kd.R_celln 0 HO_5.out ((ji21) : Int) p24 q24
             replace p24 := eq_true p24
             replace q24 := eq_true q24
             have HP25 := Kd.R_putg HO_5.out ((ji21) : Int) ((x8_2) % 4294967296)
             go_wp2_with (first | ((with_reducible refine gate_store (t := 81) (p := 63) rfl ?_); (try (rw [drewN_self wr]; generalize hq_ : World.drewN wr _ = wr; have n0_ := Aside0.mk (Kd.R_at hq_ HO_5.out); have n1_ := Aside0.mk (below_at hq_ HB.out); clear hq_ HO_5 HB; have HO_5 := n0_; have HB := n1_; clear n0_ n1_; (try (obtain ⟨hx24_0, hf24_0⟩ := Kd.R_celln 0 HO_5.out ((ji21) : Int) (of_eq_true p24) (of_eq_true q24))); (try (have HP25 := Kd.R_putg HO_5.out ((ji21) : Int) ((x8_2) % 4294967296))))); refine store_event (t := 81) (p := 63) (v := ?vo_w26) (w1 := (wr.setCell ⟨go24, ((ji21) : Int).toNat, none⟩ (.int .u32 ((x8_2) % 4294967296)))) ?hg ?ho ?hn ?hr ?_; (case ho => rfl); (case hg => rfl); (case hn => rfl); (case hr => first | (go_simp; done) | (go_simp; rfl)); intro w26 hw; have hg : wr.grownBy w26 (some go24) := (by rw [hw]; exact HP25.2); have hp_ : Kd.R (Kd.int .u32) 81 w26 w.heap.size (fun _ => True) (.slice (some ⟨go24, 0, none⟩) x5_2.length co24) y152 := (by rw [hw, Ny152.out]; exact HP25.1); clear HP25; replace HO_5 := Aside0.mk (hp_); replace HB := Aside0.mk ((by rw [hw]; exact below_set (HB.out) GB24.out : Below w.heap.size w w26)); clear hg hw hp_))
             repeat (go_quiet (first | ((with_reducible refine gate_store (t := 81) (p := 63) rfl ?_); (try (rw [drewN_self wr]; generalize hq_ : World.drewN wr _ = wr; have n0_ := Aside0.mk (Kd.R_at hq_ HO_5.out); have n1_ := Aside0.mk (below_at hq_ HB.out); clear hq_ HO_5 HB; have HO_5 := n0_; have HB := n1_; clear n0_ n1_; (try (obtain ⟨hx24_0, hf24_0⟩ := Kd.R_celln 0 HO_5.out ((ji21) : Int) (of_eq_true p24) (of_eq_true q24))); (try (have HP25 := Kd.R_putg HO_5.out ((ji21) : Int) ((x8_2) % 4294967296))))); refine store_event (t := 81) (p := 63) (v := ?vo_w26) (w1 := (wr.setCell ⟨go24, ((ji21) : Int).toNat, none⟩ (.int .u32 ((x8_2) % 4294967296)))) ?hg ?ho ?hn ?hr ?_; (case ho => rfl); (case hg => rfl); (case hn => rfl); (case hr => first | (go_simp; done) | (go_simp; rfl)); intro w26 hw; have hg : wr.grownBy w26 (some go24) := (by rw [hw]; exact HP25.2); have hp_ : Kd.R (Kd.int .u32) 81 w26 w.heap.size (fun _ => True) (.slice (some ⟨go24, 0, none⟩) x5_2.length co24) y152 := (by rw [hw, Ny152.out]; exact HP25.1); clear HP25; replace HO_5 := Aside0.mk (hp_); replace HB := Aside0.mk ((by rw [hw]; exact below_set (HB.out) GB24.out : Below w.heap.size w w26)); clear hg hw hp_)); try go_wp2_with (first | ((with_reducible refine gate_store (t := 81) (p := 63) rfl ?_); (try (rw [drewN_self wr]; generalize hq_ : World.drewN wr _ = wr; have n0_ := Aside0.mk (Kd.R_at hq_ HO_5.out); have n1_ := Aside0.mk (below_at hq_ HB.out); clear hq_ HO_5 HB; have HO_5 := n0_; have HB := n1_; clear n0_ n1_; (try (obtain ⟨hx24_0, hf24_0⟩ := Kd.R_celln 0 HO_5.out ((ji21) : Int) (of_eq_true p24) (of_eq_true q24))); (try (have HP25 := Kd.R_putg HO_5.out ((ji21) : Int) ((x8_2) % 4294967296))))); refine store_event (t := 81) (p := 63) (v := ?vo_w26) (w1 := (wr.setCell ⟨go24, ((ji21) : Int).toNat, none⟩ (.int .u32 ((x8_2) % 4294967296)))) ?hg ?ho ?hn ?hr ?_; (case ho => rfl); (case hg => rfl); (case hn => rfl); (case hr => first | (go_simp; done) | (go_simp; rfl)); intro w26 hw; have hg : wr.grownBy w26 (some go24) := (by rw [hw]; exact HP25.2); have hp_ : Kd.R (Kd.int .u32) 81 w26 w.heap.size (fun _ => True) (.slice (some ⟨go24, 0, none⟩) x5_2.length co24) y152 := (by rw [hw, Ny152.out]; exact HP25.1); clear HP25; replace HO_5 := Aside0.mk (hp_); replace HB := Aside0.mk ((by rw [hw]; exact below_set (HB.out) GB24.out : Below w.heap.size w w26)); clear hg hw hp_)))
             go_roundg k2
             case measure => have := HK1.out; have := HK2.out; omega
             case rel => exact ⟨(y152), (wrap64 (x18_1 + 1)), (by first | rfl | (simp; done)), H', ⟨by have := HK1.out; have := HK2.out; omega⟩, ⟨HO_5.out⟩, ⟨HB.out⟩⟩
            ·rw [if_neg c23] at H
             exact absurd H (by simp)
           ·rw [if_neg c22] at H
            exact absurd H (by simp)
       ·rw [if_neg c10] at H
        exact absurd H (by simp)
      ·rw [if_neg c9] at H
       exact absurd H (by simp)
     ·rw [if_neg c8] at H
      have c8b0 : decide (x18_1 < (l0.length : Int)) = false := decide_eq_false c8
      clear c8
      obtain ⟨t145, A270, H⟩ := Option.bind_eq_some_iff.mp H
      try dsimp only at H
      have A27 := Aside0.mk A270
      clear A270
      obtain rfl := Option.some.inj H
      obtain ⟨Ao28, co28, eo28⟩ := Kd.R_slice HO_5.out
      subst eo28
      go_wp2_with (first | (go_at_call 83; (with_reducible refine (nat_Norm.calls _ _ x5_1 t145 _ ?side1 ?side2 A27.out).mono ?_); (case side1 => exact (Kd.R_reads' HO_5.out).2.2); (case side2 => exact (Kd.R_reads' HO_5.out).2.1); rintro e w29 ⟨v146, rfl, ho0, hb⟩; have n0_ := Aside0.mk (Kd.R_elder' HO_5.out (Kd.R_base ho0) hb); have n1_ := Aside0.mk (Kd.R_lower (Kd.R_new' ho0 (Kd.R_lt HO_5.out)) (below_size HB.out)); have n2_ := Aside0.mk (below_step HB.out hb); clear HO_5; clear HB; have HO_5 := n0_; have HO147 := n1_; have HB := n2_; clear n0_ n1_ n2_))
      repeat (go_quiet (first | (go_at_call 83; (with_reducible refine (nat_Norm.calls _ _ x5_1 t145 _ ?side1 ?side2 A27.out).mono ?_); (case side1 => exact (Kd.R_reads' HO_5.out).2.2); (case side2 => exact (Kd.R_reads' HO_5.out).2.1); rintro e w29 ⟨v146, rfl, ho0, hb⟩; have n0_ := Aside0.mk (Kd.R_elder' HO_5.out (Kd.R_base ho0) hb); have n1_ := Aside0.mk (Kd.R_lower (Kd.R_new' ho0 (Kd.R_lt HO_5.out)) (below_size HB.out)); have n2_ := Aside0.mk (below_step HB.out hb); clear HO_5; clear HB; have HO_5 := n0_; have HO147 := n1_; have HB := n2_; clear n0_ n1_ n2_)); try go_wp2_with (first | (go_at_call 83; (with_reducible refine (nat_Norm.calls _ _ x5_1 t145 _ ?side1 ?side2 A27.out).mono ?_); (case side1 => exact (Kd.R_reads' HO_5.out).2.2); (case side2 => exact (Kd.R_reads' HO_5.out).2.1); rintro e w29 ⟨v146, rfl, ho0, hb⟩; have n0_ := Aside0.mk (Kd.R_elder' HO_5.out (Kd.R_base ho0) hb); have n1_ := Aside0.mk (Kd.R_lower (Kd.R_new' ho0 (Kd.R_lt HO_5.out)) (below_size HB.out)); have n2_ := Aside0.mk (below_step HB.out hb); clear HO_5; clear HB; have HO_5 := n0_; have HO147 := n1_; have HB := n2_; clear n0_ n1_ n2_)))
      go_ret
      exact ⟨_, by first | rfl | (simp [errW_none, errW_some] <;> rfl) | (simp only [← hji3]; first | rfl | (simp [errW_none, errW_some] <;> rfl)) | (simp [*, errW_none, errW_some] <;> rfl), Kd.R_mono HO147.out (fun _ hk => trivial), HB.out⟩
  ·rw [if_neg c5] at H
   exact absurd H (by simp)
 ·rw [if_neg c4] at H
  exact absurd H (by simp)

end Go.Proofs.Ytdicjemjmlbmlaa.PA
/- Written by a program of this session, wip/tools/patch_print.py, over the kit's print of the loaded functions. -/
namespace Go.Proofs.Ytdicjemjmlbmlaa.H
end Go.Proofs.Ytdicjemjmlbmlaa.H
namespace Go.Proofs.Ytdicjemjmlbmlaa.PA
open Go.RowKit Go.Proofs.YtdicjemjmlbmlaaW.PrintWords Go.Proofs.YtdicjemjmlbmlaaW.PrintLast Go.Proofs.YtdicjemjmlbmlaaW.PrintMore Go.Proofs.Ytdicjemjmlbmlaa.H
attribute [local go_sem] max2_int min2_int max_two min_two max_three min_three max_four min_four   -- for this text's walks alone
attribute [local go_sem] box_twice
set_option linter.unusedVariables false
set_option linter.unusedSimpArgs false

/-! ### whole_Mul: function 35 -/
def whole_Mul.f (k : Nat) (a0_0 : Bool) (l0_1 : List Int) (a1_0 : Bool) (l1_1 : List Int) : Option (Bool × List Int) := (nat_Mul.f k l0_1 l1_1).bind fun t156 => ((whole_made.f (a0_0 != a1_0) t156).bind fun bt159 => (some (bt159.1, bt159.2)))
def whole_Mul.T1 : Bool × List (List Nat × List Nat) := (true, [([], []), ([0], [0]), ([], []), ([2], [2]), ([1, 3], [1, 3]), ([], []), ([5], [5]), ([], []), ([7], [7]), ([6, 8], [6, 8]), ([4, 9, 9], [4, 9]), ([10, 10, 0, 1, 2, 3, 4, 5, 6, 7, 8, 9, 10], [10])])
def whole_Mul.B1 : List Nat := [0, 1, 0, 4, 15, 0, 32, 0, 128, 480, 1023, 2047]
theorem whole_Mul.tab1 : rtab .any (opsOf Try.f35 1) = whole_Mul.T1 := by kernel_rfl
theorem whole_Mul.bits1 : waitsOk whole_Mul.T1.2 whole_Mul.B1 = true := by kernel_rfl
set_option maxHeartbeats 8000000 in
set_option maxRecDepth 100000 in
theorem whole_Mul.calls (k : Nat) (a0_0 : Bool) (A0_1 : Option Addr) (c0_1 : Nat) (l0_1 : List Int) (a1_0 : Bool) (A1_1 : Option Addr) (c1_1 : Nat) (l1_1 : List Int) (r1 : Bool) (r2 : List Int) (w : World) (hr0_1 : Kd.C (Kd.int .u32) w A0_1 l0_1.length l0_1) (hc0_1 : l0_1.length ≤ c0_1) (hr1_1 : Kd.C (Kd.int .u32) w A1_1 l1_1.length l1_1) (hc1_1 : l1_1.length ≤ c1_1) (h : whole_Mul.f k a0_0 l0_1 a1_0 l1_1 = some (r1, r2)) :
  Calls Try.prog 35 #[.agg #[.bool a0_0, .slice A0_1 l0_1.length c0_1], .agg #[.bool a1_0, .slice A1_1 l1_1.length c1_1]] w fun e w' => ∃ v1_ : Value, e = .returned (.agg #[.bool r1, v1_]) ∧ Kd.R (Kd.int .u32) 81 w' w.heap.size (fun _ => True) v1_ r2 ∧ Below w.heap.size w w' := by
 have hu24 := Try.underlying24
 have HR0_1 := Aside0.mk hr0_1
 have HC0_1 := Aside0.mk hc0_1
 clear hr0_1 hc0_1
 have HR1_1 := Aside0.mk hr1_1
 have HC1_1 := Aside0.mk hc1_1
 clear hr1_1 hc1_1
 have HB := Aside0.mk (Below.refl w.heap.size w)
 have H : ((nat_Mul.f k l0_1 l1_1).bind fun t156 => ((whole_made.f (a0_0 != a1_0) t156).bind fun bt159 => (some (bt159.1, bt159.2)))) = some (r1, r2) := h
 clear h
 obtain ⟨t156, A30, H⟩ := Option.bind_eq_some_iff.mp H
 try dsimp only at H
 have A3 := Aside0.mk A30
 clear A30
 obtain ⟨⟨t159, t160⟩, A40, H⟩ := Option.bind_eq_some_iff.mp H
 try dsimp only at H
 have A4 := Aside0.mk A40
 clear A40
 simp only [Option.some.injEq, Prod.mk.injEq] at H
 obtain ⟨rfl, rfl⟩ := H
 go_enter Try.func35, Try.ntmps35
 try go_wp2_with (first | ((with_reducible refine gate_dst (N := 2) rfl ?_); refine box_event ?hg (N := 2) ?hd (cs := #[.bool a0_0, .slice A0_1 l0_1.length c0_1]) (t := 24) ?hr ?_; (case hd => rfl); (case hg => rfl); (case hr => first | (go_simp; done) | (go_simp; rfl)); intro gb153 hg w5 hbox hb; have BK153 := Aside0.mk (hbox); have GW153 := Aside0.mk (bxLe HB.out hg); have GE153 := GW153; replace HB := Aside0.mk (below_step HB.out hb); clear hb hbox hg) | ((with_reducible refine gate_dst (N := 3) rfl ?_); refine box_event ?hg (N := 3) ?hd (cs := #[.bool a1_0, .slice A1_1 l1_1.length c1_1]) (t := 24) ?hr ?_; (case hd => rfl); (case hg => rfl); (case hr => first | (go_simp; done) | (go_simp; rfl)); intro gb154 hg w6 hbox hb; have BK154 := Aside0.mk (hbox); have GW154 := Aside0.mk (bxLe HB.out hg); have GE154 := GW154; replace HB := Aside0.mk (below_step HB.out hb); have NB153_154 := Aside0.mk (neL BK153.out hg); have NB154_153 := Aside0.mk (neR BK153.out hg); replace BK153 := Aside0.mk (blk_below BK153.out hb); clear hb hbox hg) | ((with_reducible refine gate_dst (N := 4) rfl ?_); refine box_event ?hg (N := 4) ?hd (cs := #[.bool false, .slice none 0 0]) (t := 24) ?hr ?_; (case hd => rfl); (case hg => rfl); (case hr => first | (go_simp; done) | (go_simp; rfl)); intro gb155 hg w7 hbox hb; have BK155 := Aside0.mk (hbox); have GW155 := Aside0.mk (bxLe HB.out hg); have GE155 := GW155; replace HB := Aside0.mk (below_step HB.out hb); have NB153_155 := Aside0.mk (neL BK153.out hg); have NB155_153 := Aside0.mk (neR BK153.out hg); replace BK153 := Aside0.mk (blk_below BK153.out hb); have NB154_155 := Aside0.mk (neL BK154.out hg); have NB155_154 := Aside0.mk (neR BK154.out hg); replace BK154 := Aside0.mk (blk_below BK154.out hb); clear hb hbox hg))
 replace BK153 := Aside0.mk (blk_drew BK153.out)
 replace BK154 := Aside0.mk (blk_drew BK154.out)
 replace BK155 := Aside0.mk (blk_drew BK155.out)
 replace HB := Aside0.mk (below_drew1 HB.out)
 refine start_ (n := 12) (S := fun w' => w'.cell? ⟨gb153, 0, none⟩ = some (.bool a0_0) ∧ w'.cell? ⟨gb153, 1, none⟩ = some (.slice A0_1 l0_1.length c0_1) ∧ w'.cell? ⟨gb154, 0, none⟩ = some (.bool a1_0) ∧ w'.cell? ⟨gb154, 1, none⟩ = some (.slice A1_1 l1_1.length c1_1)) (ds := []) #[false, false, false, false, false, false, false, false, false, false, false, false] (by kernel_rfl) rfl rfl ⟨bc0 BK153.out, bc1 BK153.out, bc0 BK154.out, bc1 BK154.out⟩ (fun hHeld => ?_); refine with_tabW whole_Mul.tab1 whole_Mul.bits1 (fun HT_ HW_ => ?_)
 generalize w7.drew = w8 at BK153 BK154 BK155 HB hHeld ⊢
 refine pure_ (i := 0) (N := some 5) (v := ?_) (a' := ?_) #[true, false, false, false, false, false, false, false, false, false, false, false] rfl rfl (any_of HT_.out (by kernel_rfl)) (fun _ _ _ h => h) (Or.inl ⟨by rfl, ?_⟩) ?_ ?_
 rotate_left
 ·intro w'
  go_simp
  with_reducible rfl
 rotate_left
 ·simp only [Act.put, List.setIfInBounds_toArray, List.set_cons_zero, List.set_cons_succ, i64_w, i32_w]
  rfl
 refine pure_ (i := 2) (N := some 7) (v := ?_) (a' := ?_) #[true, false, true, false, false, false, false, false, false, false, false, false] rfl rfl (any_of HT_.out (by kernel_rfl)) (fun _ _ _ h => h) (Or.inl ⟨by rfl, ?_⟩) ?_ ?_
 rotate_left
 ·intro w'
  go_simp
  with_reducible rfl
 rotate_left
 ·simp only [Act.put, List.setIfInBounds_toArray, List.set_cons_zero, List.set_cons_succ, i64_w, i32_w]
  rfl
 refine pure_ (i := 5) (N := some 10) (v := ?_) (a' := ?_) #[true, false, true, false, false, true, false, false, false, false, false, false] rfl rfl (any_of HT_.out (by kernel_rfl)) (fun _ _ _ h => h) (Or.inl ⟨by rfl, ?_⟩) ?_ ?_
 rotate_left
 ·intro w'
  go_simp
  with_reducible rfl
 rotate_left
 ·simp only [Act.put, List.setIfInBounds_toArray, List.set_cons_zero, List.set_cons_succ, i64_w, i32_w]
  rfl
 refine pure_ (i := 7) (N := some 12) (v := ?_) (a' := ?_) #[true, false, true, false, false, true, false, true, false, false, false, false] rfl rfl (any_of HT_.out (by kernel_rfl)) (fun _ _ _ h => h) (Or.inl ⟨by rfl, ?_⟩) ?_ ?_
 rotate_left
 ·intro w'
  go_simp
  with_reducible rfl
 rotate_left
 ·simp only [Act.put, List.setIfInBounds_toArray, List.set_cons_zero, List.set_cons_succ, i64_w, i32_w]
  rfl
 refine take_ (i := 1) (N := some 6) (v := ?_) (a' := ?_) #[true, true, true, false, false, true, false, true, false, false, false, false] rfl rfl (take_ofW HT_.out HW_.out (by kernel_rfl)) (fun _ _ _ h => h) (Or.inl ⟨by rfl, ?_⟩) hHeld ?_ ?_
 rotate_left
 ·rintro w' ⟨s0, s1, s2, s3⟩
  go_simp
  with_reducible rfl
 rotate_left
 ·simp only [Act.put, List.setIfInBounds_toArray, List.set_cons_zero, List.set_cons_succ, i64_w, i32_w]
  rfl
 refine take_ (i := 3) (N := some 8) (v := ?_) (a' := ?_) #[true, true, true, true, false, true, false, true, false, false, false, false] rfl rfl (take_ofW HT_.out HW_.out (by kernel_rfl)) (fun _ _ _ h => h) (Or.inl ⟨by rfl, ?_⟩) hHeld ?_ ?_
 rotate_left
 ·rintro w' ⟨s0, s1, s2, s3⟩
  go_simp
  with_reducible rfl
 rotate_left
 ·simp only [Act.put, List.setIfInBounds_toArray, List.set_cons_zero, List.set_cons_succ, i64_w, i32_w]
  rfl
 refine pure_ (i := 4) (N := some 9) (v := ?_) (a' := ?_) #[true, true, true, true, true, true, false, true, false, false, false, false] rfl rfl (any_of HT_.out (by kernel_rfl)) (fun _ _ _ h => h) (Or.inl ⟨by rfl, ?_⟩) ?_ ?_
 rotate_left
 ·intro w'
  go_simp
  with_reducible rfl
 rotate_left
 ·simp only [Act.put, List.setIfInBounds_toArray, List.set_cons_zero, List.set_cons_succ, i64_w, i32_w]
  rfl
 refine take_ (i := 6) (N := some 11) (v := ?_) (a' := ?_) #[true, true, true, true, true, true, true, true, false, false, false, false] rfl rfl (take_ofW HT_.out HW_.out (by kernel_rfl)) (fun _ _ _ h => h) (Or.inl ⟨by rfl, ?_⟩) hHeld ?_ ?_
 rotate_left
 ·rintro w' ⟨s0, s1, s2, s3⟩
  go_simp
  with_reducible rfl
 rotate_left
 ·simp only [Act.put, List.setIfInBounds_toArray, List.set_cons_zero, List.set_cons_succ, i64_w, i32_w]
  rfl
 refine take_ (i := 8) (N := some 13) (v := ?_) (a' := ?_) #[true, true, true, true, true, true, true, true, true, false, false, false] rfl rfl (take_ofW HT_.out HW_.out (by kernel_rfl)) (fun _ _ _ h => h) (Or.inl ⟨by rfl, ?_⟩) hHeld ?_ ?_
 rotate_left
 ·rintro w' ⟨s0, s1, s2, s3⟩
  go_simp
  with_reducible rfl
 rotate_left
 ·simp only [Act.put, List.setIfInBounds_toArray, List.set_cons_zero, List.set_cons_succ, i64_w, i32_w]
  rfl
 refine one_ (i := 9) (N := some 14) #[true, true, true, true, true, true, true, true, true, true, false, false] rfl rfl (one_of HT_.out (by kernel_rfl)) (by decide) (fun K hK => ?_)
 refine goR Try.func65 [.slice A0_1 l0_1.length c0_1, .slice A1_1 l1_1.length c1_1] ?_
 with_reducible refine (nat_Mul.calls k _ _ l0_1 _ _ l1_1 t156 _ ?side1 ?side2 ?side3 ?side4 A3.out).mono ?_
 (case side1 => exact (Kd.C_below HR0_1.out HB.out))
 (case side2 => exact HC0_1.out)
 (case side3 => exact (Kd.C_below HR1_1.out HB.out))
 (case side4 => exact HC1_1.out)
 rintro e w9 ⟨v157, rfl, ho0, hb⟩
 refine ⟨_, rfl, ?_⟩
 have HO158 := Aside0.mk (Kd.R_lower ho0 (below_size HB.out))
 replace BK153 := Aside0.mk (blk_below BK153.out hb)
 replace BK154 := Aside0.mk (blk_below BK154.out hb)
 replace BK155 := Aside0.mk (blk_below BK155.out hb)
 replace HB := Aside0.mk (below_step HB.out hb)
 (try clear hb)
 (try clear hb2)
 (try clear hk)
 (try clear hi)
 (try clear ho0)
 obtain ⟨Ao10, co10, eo10⟩ := Kd.R_slice HO158.out
 subst eo10
 refine hK.out _ _ ⟨bc0 BK153.out, bc1 BK153.out, bc0 BK154.out, bc1 BK154.out⟩ (fun hHeld => ?_)
 clear hK K
 refine norm_ (a' := ?_) ?_ ?_
 rotate_left
 ·show Act.put _ (some 14) _ = _
  simp only [Act.put, List.setIfInBounds_toArray, List.set_cons_zero, List.set_cons_succ, i64_w, i32_w]
  rfl
 refine one_ (i := 10) (N := some 15) #[true, true, true, true, true, true, true, true, true, true, true, false] rfl rfl (one_of HT_.out (by kernel_rfl)) (by decide) (fun K hK => ?_)
 refine goR Try.func63 [.bool (a0_0 != a1_0), .slice Ao10 t156.length co10] ?_
 with_reducible refine (whole_made.calls (a0_0 != a1_0) _ _ t156 t159 t160 _ ?side1 ?side2 A4.out).mono ?_
 (case side1 => exact (Kd.R_reads' HO158.out).2.2)
 (case side2 => exact (Kd.R_reads' HO158.out).2.1)
 rintro e w11 ⟨v161, rfl, ho0, hb⟩
 refine ⟨_, rfl, ?_⟩
 have HO162 := Aside0.mk (Kd.R_lower (Kd.R_new' ho0 (Kd.R_lt HO158.out)) (below_size HB.out))
 replace BK153 := Aside0.mk (blk_below BK153.out hb)
 replace BK154 := Aside0.mk (blk_below BK154.out hb)
 replace BK155 := Aside0.mk (blk_below BK155.out hb)
 replace HB := Aside0.mk (below_step HB.out hb)
 (try clear hb)
 (try clear hb2)
 (try clear hk)
 (try clear hi)
 (try clear ho0)
 obtain ⟨Ao13, co13, eo13⟩ := Kd.R_slice HO162.out
 subst eo13
 refine hK.out _ _ ⟨bc0 BK153.out, bc1 BK153.out, bc0 BK154.out, bc1 BK154.out⟩ (fun hHeld => ?_)
 clear hK K
 refine norm_ (a' := ?_) ?_ ?_
 rotate_left
 ·show Act.put _ (some 15) _ = _
  simp only [Act.put, List.setIfInBounds_toArray, List.set_cons_zero, List.set_cons_succ, i64_w, i32_w]
  rfl
 refine one_ (i := 11) (N := none) #[true, true, true, true, true, true, true, true, true, true, true, true] rfl rfl (one_of HT_.out (by kernel_rfl)) (by decide) (fun K hK => ?_)
 have hs12 : w11.cell? ⟨gb155, 0, none⟩ = some (.bool false) := bc0 BK155.out
 have hfs12 := blk_frozen BK155.out 0
 have hns12_0 := NB153_155.out
 have hns12_1 := NB154_155.out
 have hms12_0 := NB155_153.out
 have hms12_1 := NB155_154.out
 have hs14 : w11.cell? ⟨gb155, 1, none⟩ = some (.slice none 0 0) := bc1 BK155.out
 have hfs14 := blk_frozen BK155.out 1
 have hns14_0 := NB153_155.out
 have hns14_1 := NB154_155.out
 have hms14_0 := NB155_153.out
 have hms14_1 := NB155_154.out
 refine skip_ (w1 := ?_) (by rfl) rfl ?_ ?_
 rotate_left
 ·go_simp
  rfl
 refine hK.out _ _ ⟨((cell_far (p := ⟨gb155, _, none⟩) NB153_155.out _).trans (((cell_far (p := ⟨gb155, _, none⟩) NB153_155.out _).trans (hHeld.1)))), ((cell_far (p := ⟨gb155, _, none⟩) NB153_155.out _).trans (((cell_far (p := ⟨gb155, _, none⟩) NB153_155.out _).trans (hHeld.2.1)))), ((cell_far (p := ⟨gb155, _, none⟩) NB154_155.out _).trans (((cell_far (p := ⟨gb155, _, none⟩) NB154_155.out _).trans (hHeld.2.2.1)))), ((cell_far (p := ⟨gb155, _, none⟩) NB154_155.out _).trans (((cell_far (p := ⟨gb155, _, none⟩) NB154_155.out _).trans (hHeld.2.2.2))))⟩ (fun hHeld => ?_)
 clear hK K
 refine done_ (done_of HT_.out (by kernel_rfl)) ?_
 try go_wp2
 refine bodyPost_ret (results_cell_row rfl _ _ gb155 24 #[.bool t159, .slice Ao13 t160.length co13] (0, 0) _ rfl (by refine blk_put (cs := #[.bool t159, .slice none 0 0]) ?_ 1 _ rfl; refine blk_put (cs := #[.bool false, .slice none 0 0]) ?_ 0 _ rfl; exact BK155.out) Try.underlying24 rfl (by kernel_rfl)) rfl ?_
 exact ⟨_, rfl, Kd.R_mono (Kd.R_far (p := ⟨gb155, 1, none⟩) (Kd.R_far (p := ⟨gb155, 0, none⟩) (Kd.R_types HO162.out BK155.out (by decide)) (fun _ hk => hk.2) (.bool t159)) (fun _ hk => hk.2) (.slice Ao13 t160.length co13)) (fun _ hk => trivial), by repeat first | exact HB.out | refine bxSet ?_ (by assumption) | apply below_alloc | apply pw_below_drewN⟩

/-! ### nat_limb: function 84 -/
def nat_limb.f (l0 : List Int) (a1 : Int) : Option (Int) := if a1 ≥ (l0.length : Int) then (some 0) else (if 0 ≤ a1 then (if a1 < (l0.length : Int) then (some (IntKind.u64.wrap (rd l0 a1))) else (none)) else (none))
set_option maxHeartbeats 8000000 in
set_option maxRecDepth 100000 in
theorem nat_limb.calls (A0 : Option Addr) (c0 : Nat) (l0 : List Int) (a1 : Int) (r : Int) (w : World) (hr0 : Kd.C (Kd.int .u32) w A0 l0.length l0) (hc0 : l0.length ≤ c0) (h : nat_limb.f l0 a1 = some r) :
  Calls Try.prog 84 #[.slice A0 l0.length c0, .int .i64 a1] w fun e w' => e = .returned (.int .u64 r) ∧ Drawn0 w w' := by
 have HR0 := Aside0.mk hr0
 have HC0 := Aside0.mk hc0
 clear hr0 hc0
 have H : (if a1 ≥ (l0.length : Int) then (some 0) else (if 0 ≤ a1 then (if a1 < (l0.length : Int) then (some (IntKind.u64.wrap (rd l0 a1))) else (none)) else (none))) = some r := h
 clear h
 by_cases c3 : a1 ≥ (l0.length : Int)
 ·rw [if_pos c3] at H
  have c3b0 : decide ((l0.length : Int) ≤ a1) = true := decide_eq_true c3
  clear c3
  obtain rfl := Option.some.inj H
  go_enter Try.func84, Try.ntmps84
  go_wp2
  go_ret
  exact ⟨by first | rfl | (simp; done), by repeat (first | exact Drawn0.refl _ | apply Drawn0.step)⟩
 ·rw [if_neg c3] at H
  have c3b0 : decide ((l0.length : Int) ≤ a1) = false := decide_eq_false c3
  clear c3
  by_cases c4 : 0 ≤ a1
  ·rw [if_pos c4] at H
   have c4b0 : decide (0 ≤ a1) = true := decide_eq_true c4
   clear c4
   by_cases c5 : a1 < (l0.length : Int)
   ·rw [if_pos c5] at H
    have c5b0 : decide (a1 < (l0.length : Int)) = true := decide_eq_true c5
    clear c5
    obtain rfl := Option.some.inj H
    have p163 : 0 ≤ (a1 : Int) := of_decide_eq_true (by first | (with_reducible assumption) | assumption)
    have q163 : a1 < (l0.length : Int) := of_decide_eq_true (by first | (with_reducible assumption) | assumption)
    obtain ⟨ad163, e163, hx163_0⟩ := Kd.at_int HR0.out a1 p163 q163
    cases e163
    replace p163 := eq_true p163
    replace q163 := eq_true q163
    go_enter Try.func84, Try.ntmps84
    go_wp2
    go_ret
    exact ⟨by first | rfl | (simp; done), by repeat (first | exact Drawn0.refl _ | apply Drawn0.step)⟩
   ·rw [if_neg c5] at H
    exact absurd H (by simp)
  ·rw [if_neg c4] at H
   exact absurd H (by simp)

/-! ### nat_Add: function 66 -/
def nat_Add.l0 : Nat → List Int → List Int → List Int → Int → Int → Int → Option (List Int)
 | 0, _, _, _, _, _, _ => none
 | k + 1, x0, x1, x6, x7, x17, x18 => if x18 < x17 then ((nat_limb.f x0 x18).bind fun t167 => ((nat_limb.f x1 x18).bind fun t168 => (if 0 ≤ x18 then (if x18 < (x6.length : Int) then (nat_Add.l0 k x0 x1 (x6.set (x18 : Int).toNat ((IntKind.u64.wrap (x7 + (IntKind.u64.wrap (t167 + t168)))) % 4294967296)) ((IntKind.u64.wrap (x7 + (IntKind.u64.wrap (t167 + t168)))) / 4294967296) x17 (wrap64 (x18 + 1))) else (none)) else (none)))) else ((nat_Norm.f x6).bind fun t170 => (some t170))
def nat_Add.f (k : Nat) (l0 : List Int) (l1 : List Int) : Option (List Int) := if 0 ≤ (wrap64 ((mx (l0.length : Int) (l1.length : Int)) + 1)) then (if (wrap64 ((mx (l0.length : Int) (l1.length : Int)) + 1) : Int).toNat ≤ 70368744177664 then (nat_Add.l0 k l0 l1 (List.replicate (wrap64 ((mx (l0.length : Int) (l1.length : Int)) + 1) : Int).toNat 0) 0 (wrap64 ((mx (l0.length : Int) (l1.length : Int)) + 1)) 0) else (none)) else (none)
set_option maxHeartbeats 8000000 in
set_option maxRecDepth 100000 in
theorem nat_Add.calls (k : Nat) (A0 : Option Addr) (c0 : Nat) (l0 : List Int) (A1 : Option Addr) (c1 : Nat) (l1 : List Int) (r : List Int) (w : World) (hr0 : Kd.C (Kd.int .u32) w A0 l0.length l0) (hc0 : l0.length ≤ c0) (hr1 : Kd.C (Kd.int .u32) w A1 l1.length l1) (hc1 : l1.length ≤ c1) (h : nat_Add.f k l0 l1 = some r) :
  Calls Try.prog 66 #[.slice A0 l0.length c0, .slice A1 l1.length c1] w fun e w' => ∃ v0_ : Value, e = .returned (v0_) ∧ Kd.R (Kd.int .u32) 81 w' w.heap.size (fun _ => True) v0_ r ∧ Below w.heap.size w w' := by
 have HR0 := Aside0.mk hr0
 have HC0 := Aside0.mk hc0
 clear hr0 hc0
 have HR1 := Aside0.mk hr1
 have HC1 := Aside0.mk hc1
 clear hr1 hc1
 have HB := Aside0.mk (Below.refl w.heap.size w)
 have H : (if 0 ≤ (wrap64 ((mx (l0.length : Int) (l1.length : Int)) + 1)) then (if (wrap64 ((mx (l0.length : Int) (l1.length : Int)) + 1) : Int).toNat ≤ 70368744177664 then (nat_Add.l0 k l0 l1 (List.replicate (wrap64 ((mx (l0.length : Int) (l1.length : Int)) + 1) : Int).toNat 0) 0 (wrap64 ((mx (l0.length : Int) (l1.length : Int)) + 1)) 0) else (none)) else (none)) = some r := h
 clear h
 obtain ⟨ji3, hji3⟩ : ∃ j_ : Int, (mx (l0.length : Int) (l1.length : Int)) = j_ := ⟨_, rfl⟩
 replace H : (if 0 ≤ (wrap64 ((ji3) + 1)) then (if (wrap64 ((ji3) + 1) : Int).toNat ≤ 70368744177664 then (nat_Add.l0 k l0 l1 (List.replicate (wrap64 ((ji3) + 1) : Int).toNat 0) 0 (wrap64 ((ji3) + 1)) 0) else (none)) else (none)) = some r := by first | (rw [hji3] at H; exact H) | (simp only [hji3] at H ⊢; exact H)
 (try (have hji3l : 0 ≤ ji3 := by (rw [← hji3]; unfold mx; (repeat' split) <;> omega)))
 (try (have hji3m : 0 ≤ ji3 := by omega))
 have hji3_ : (if (l0.length : Int) < (l1.length : Int) then (l1.length : Int) else (l0.length : Int)) = ji3 := hji3
 have hji3__ := hji3_
 (try simp only [Int.ofNat_lt] at hji3__)
 obtain ⟨ji4, hji4⟩ : ∃ j_ : Int, (wrap64 ((ji3) + 1)) = j_ := ⟨_, rfl⟩
 replace H : (if 0 ≤ (ji4) then (if (ji4 : Int).toNat ≤ 70368744177664 then (nat_Add.l0 k l0 l1 (List.replicate (ji4 : Int).toNat 0) 0 ji4 0) else (none)) else (none)) = some r := by first | (rw [hji4] at H; exact H) | (simp only [hji4] at H ⊢; exact H)
 have hji4w : (IntKind.i64.wrap ((ji3) + 1)) = ji4 := (i64_w _).trans hji4
 by_cases c5 : 0 ≤ (ji4)
 ·rw [if_pos c5] at H
  have c5b0 := eq_true c5
  have c5b1 : decide (0 ≤ (ji4)) = true := decide_eq_true c5
  clear c5
  by_cases c6 : (ji4 : Int).toNat ≤ 70368744177664
  ·rw [if_pos c6] at H
   have c6b0 := eq_true c6
   have c6b1 : decide ((ji4 : Int).toNat ≤ 70368744177664) = true := decide_eq_true c6
   clear c6
   obtain ⟨y164, hy164⟩ : ∃ y_ : List Int, y_ = (List.replicate (ji4 : Int).toNat 0) := ⟨_, rfl⟩
   replace H : (nat_Add.l0 k l0 l1 y164 0 ji4 0) = some r := by first | (rw [hy164]; with_reducible exact H) | (have H2_ := (Option.bind_some _ _).symm.trans H; rw [hy164]; with_reducible exact H2_) | (have H2_ := (Option.bind_some _ _).symm.trans H; with_reducible exact H2_) | with_reducible exact H | (rw [hy164]; exact H) | exact H
   have Ny164 := Aside0.mk hy164
   clear hy164
   have H' := Aside0.mk H
   clear H
   go_enter Try.func66, Try.ntmps66
   go_wp2_with (first | ((with_reducible refine gate_dst (N := 16) rfl ?_); refine Kd.R_make (Kd.int .u32) _ 81 rfl (N := 16) rfl 22 _ _ rfl ji4 rfl rfl Try.underlying22 (.int .u32 0) 4 info81 rfl (by decide) (by omega) 0 (ok := fun _ => True) (okp := fun _ => True) rfl (fun _ hk => hk) trivial (of_decide_eq_true (by first | (with_reducible assumption) | assumption)) (Nat.le_trans (Nat.mul_le_mul_right _ (of_decide_eq_true (by first | (with_reducible assumption) | assumption) : ji4.toNat ≤ 70368744177664)) (by omega)) (Below.refl _ _) (Nat.le_refl _) ?_; intro v165 w7 ho8 hb hg_ hnew_; clear hg_ hnew_; (first | rw [← Ny164.out] at ho8 | (simp only [Int.reduceToNat] at ho8; rw [← Ny164.out] at ho8)); have HO166 := Aside0.mk (Kd.R_lower ho8 (below_size HB.out)); replace HB := Aside0.mk (below_step HB.out hb); clear hb ho8))
   go_loopg [7, 18] k (fun kq v7 v18 w' => ∃ (x6_1 : List Int) (x7_1 : Int) (x18_1 : Int), v7 = .int .u64 x7_1 ∧ v18 = .int .i64 x18_1 ∧ Aside0 (nat_Add.l0 kq l0 l1 x6_1 x7_1 ji4 x18_1 = some r) ∧ Aside0 (kq ≤ k) ∧ Aside0 (Kd.R (Kd.int .u32) 81 w' w.heap.size (fun _ => True) v165 x6_1) ∧ Aside0 (Below w.heap.size w w'))
   case atStart => exact ⟨(y164), (0), (0), (by first | rfl | (simp; done)), (by first | rfl | (simp; done)), H', ⟨Nat.le_refl _⟩, ⟨HO166.out⟩, ⟨HB.out⟩⟩
   case round =>
    clear H'
    try clear c1
    try clear p2
    try clear c5
    try clear c5b0
    try clear c5b1
    try clear c6
    try clear c6b0
    try clear c6b1
    try clear p6
    obtain ⟨x6_1, x7_1, x18_1, rfl, rfl, HA, HK1, HO_6, HB⟩ := hrel
    cases gk with
    | zero => exact absurd HA.out (by simp [nat_Add.l0])
    | succ k1 =>
     have H := HA.out
     clear HA
     simp only [nat_Add.l0] at H
     by_cases c9 : x18_1 < ji4
     ·rw [if_pos c9] at H
      have c9b0 : decide (x18_1 < ji4) = true := decide_eq_true c9
      clear c9
      obtain ⟨t167, A100, H⟩ := Option.bind_eq_some_iff.mp H
      try dsimp only at H
      have A10 := Aside0.mk A100
      clear A100
      obtain ⟨t168, A110, H⟩ := Option.bind_eq_some_iff.mp H
      try dsimp only at H
      have A11 := Aside0.mk A110
      clear A110
      by_cases c12 : 0 ≤ x18_1
      ·rw [if_pos c12] at H
       have c12b0 : decide (0 ≤ x18_1) = true := decide_eq_true c12
       clear c12
       by_cases c13 : x18_1 < (x6_1.length : Int)
       ·rw [if_pos c13] at H
        have c13b0 : decide (x18_1 < (x6_1.length : Int)) = true := decide_eq_true c13
        clear c13
        obtain ⟨y169, hy169⟩ : ∃ y_ : List Int, y_ = (x6_1.set (x18_1 : Int).toNat ((IntKind.u64.wrap (x7_1 + (IntKind.u64.wrap (t167 + t168)))) % 4294967296)) := ⟨_, rfl⟩
        replace H : (nat_Add.l0 k1 l0 l1 y169 ((IntKind.u64.wrap (x7_1 + (IntKind.u64.wrap (t167 + t168)))) / 4294967296) ji4 (wrap64 (x18_1 + 1))) = some r := by first | (rw [hy169]; with_reducible exact H) | (have H2_ := (Option.bind_some _ _).symm.trans H; rw [hy169]; with_reducible exact H2_) | (have H2_ := (Option.bind_some _ _).symm.trans H; with_reducible exact H2_) | with_reducible exact H | (rw [hy169]; exact H) | exact H
        have Ny169 := Aside0.mk hy169
        clear hy169
        have H' := Aside0.mk H
        clear H
        go_wp2_with (first | ((with_reducible refine gate_callee (f := 84) rfl ?_); refine goL (some 24) Try.func84 [.slice A0 l0.length c0, .int .i64 x18_1] ?_; (with_reducible refine (nat_limb.calls _ _ l0 x18_1 t167 _ ?side1 ?side2 A10.out).mono ?_); (case side1 => repeat (first | exact (Kd.C_below HR0.out HB.out) | (with_reducible refine Kd.C_alloc ?_ _) | (with_reducible refine Kd.C_drewN ?_ _) | (with_reducible refine Kd.C_drew ?_))); (case side2 => exact HC0.out); rintro e w' ⟨rfl, ⟨nd, rfl⟩⟩; refine ⟨_, rfl, ?_⟩; (try (rw [drewN_self wr]; generalize hq_ : World.drewN wr _ = wr; have n0_ : Aside0 (Kd.R (Kd.int .u32) 81 wr w.heap.size (fun _ => True) v165 x6_1) := ⟨by rw [← hq_]; exact (by (with_reducible repeat (first | apply Kd.R_alloc | apply Kd.R_drewN | apply Kd.R_drew)); exact HO_6.out)⟩; have n1_ : Aside0 (Below w.heap.size w wr) := ⟨by rw [← hq_]; exact (by repeat first | exact HB.out | refine bxSet ?_ (by assumption) | apply below_alloc | apply pw_below_drewN)⟩; clear HO_6 HB hq_; have HO_6 := n0_; have HB := n1_; clear n0_ n1_))) | ((with_reducible refine gate_callee (f := 84) rfl ?_); refine goL (some 27) Try.func84 [.slice A1 l1.length c1, .int .i64 x18_1] ?_; (with_reducible refine (nat_limb.calls _ _ l1 x18_1 t168 _ ?side1 ?side2 A11.out).mono ?_); (case side1 => repeat (first | exact (Kd.C_below HR1.out HB.out) | (with_reducible refine Kd.C_alloc ?_ _) | (with_reducible refine Kd.C_drewN ?_ _) | (with_reducible refine Kd.C_drew ?_))); (case side2 => exact HC1.out); rintro e w' ⟨rfl, ⟨nd, rfl⟩⟩; refine ⟨_, rfl, ?_⟩; (try (rw [drewN_self wr]; generalize hq_ : World.drewN wr _ = wr; have n0_ : Aside0 (Kd.R (Kd.int .u32) 81 wr w.heap.size (fun _ => True) v165 x6_1) := ⟨by rw [← hq_]; exact (by (with_reducible repeat (first | apply Kd.R_alloc | apply Kd.R_drewN | apply Kd.R_drew)); exact HO_6.out)⟩; have n1_ : Aside0 (Below w.heap.size w wr) := ⟨by rw [← hq_]; exact (by repeat first | exact HB.out | refine bxSet ?_ (by assumption) | apply below_alloc | apply pw_below_drewN)⟩; clear HO_6 HB hq_; have HO_6 := n0_; have HB := n1_; clear n0_ n1_)); have p14 : 0 ≤ (x18_1 : Int) := of_decide_eq_true (by first | (with_reducible assumption) | assumption); have q14 : (x18_1 : Int) < ((x6_1.length : Int) : Int) := of_decide_eq_true (by first | (with_reducible assumption) | assumption); obtain ⟨go14, co14, eo14, gb14, gl14, cl14, HG14⟩ := Kd.R_form HO_6.out (by omega); (first | cases eo14 | (injection eo14 with ea_ en_ ec_; (first | subst ea_ | (injection ea_ with ea_; subst ea_)); subst ec_; clear en_)); have GB14 := Aside0.mk gb14; have GG14 := Aside0.mk HG14; clear gb14 gl14 HG14; obtain ⟨hx14_0, hf14_0⟩ := Kd.R_celln 0 HO_6.out (x18_1 : Int) p14 q14; replace p14 := eq_true p14; replace q14 := eq_true q14; obtain ⟨hy15_, hz15_⟩ := Kd.R_celln 0 HO_6.out (x18_1 : Int) (of_decide_eq_true (by first | (with_reducible assumption) | assumption)) (of_decide_eq_true (by first | (with_reducible assumption) | assumption)); have HP15 := Kd.R_putg HO_6.out (x18_1 : Int) ((IntKind.u64.wrap (x7_1 + (IntKind.u64.wrap (t167 + t168)))) % 4294967296)) | ((with_reducible refine gate_store (t := 81) (p := 34) rfl ?_); refine store_event (t := 81) (p := 34) (v := ?vo_w16) (w1 := (wr.setCell ⟨go14, (x18_1 : Int).toNat, none⟩ (.int .u32 ((IntKind.u64.wrap (x7_1 + (IntKind.u64.wrap (t167 + t168)))) % 4294967296)))) ?hg ?ho ?hn ?hr ?_; (case ho => rfl); (case hg => rfl); (case hn => rfl); (case hr => first | (go_simp; done) | (go_simp; rfl)); intro w16 hw; have hg : wr.grownBy w16 (some go14) := (by rw [hw]; exact HP15.2); have hp_ : Kd.R (Kd.int .u32) 81 w16 w.heap.size (fun _ => True) (.slice (some ⟨go14, 0, none⟩) x6_1.length co14) y169 := (by rw [hw, Ny169.out]; exact HP15.1); clear HP15; replace HO_6 := Aside0.mk (hp_); replace HB := Aside0.mk ((by rw [hw]; exact below_set (HB.out) GB14.out : Below w.heap.size w w16)); clear hg hw hp_))
        go_roundg k1
        case measure => have := HK1.out; omega
        case rel => exact ⟨(y169), ((IntKind.u64.wrap (x7_1 + (IntKind.u64.wrap (t167 + t168)))) / 4294967296), (wrap64 (x18_1 + 1)), (by first | rfl | (simp; done)), (by first | rfl | (simp; done)), H', ⟨by have := HK1.out; omega⟩, ⟨HO_6.out⟩, ⟨HB.out⟩⟩
       ·rw [if_neg c13] at H
        exact absurd H (by simp)
      ·rw [if_neg c12] at H
       exact absurd H (by simp)
     ·rw [if_neg c9] at H
      have c9b0 : decide (x18_1 < ji4) = false := decide_eq_false c9
      clear c9
      obtain ⟨t170, A170, H⟩ := Option.bind_eq_some_iff.mp H
      try dsimp only at H
      have A17 := Aside0.mk A170
      clear A170
      obtain rfl := Option.some.inj H
      obtain ⟨Ao18, co18, eo18⟩ := Kd.R_slice HO_6.out
      subst eo18
      go_wp2_with (first | ((with_reducible refine gate_callee (f := 83) rfl ?_); refine goL (some 39) Try.func83 [.slice Ao18 x6_1.length co18] ?_; (with_reducible refine (nat_Norm.calls _ _ x6_1 t170 _ ?side1 ?side2 A17.out).mono ?_); (case side1 => exact (Kd.R_reads' HO_6.out).2.2); (case side2 => exact (Kd.R_reads' HO_6.out).2.1); rintro e w19 ⟨v171, rfl, ho0, hb⟩; refine ⟨_, rfl, ?_⟩; have HO172 := Aside0.mk (Kd.R_lower (Kd.R_new' ho0 (Kd.R_lt HO_6.out)) (below_size HB.out)); replace HB := Aside0.mk (below_step HB.out hb)))
      go_ret
      exact ⟨_, by first | rfl | (simp [errW_none, errW_some] <;> rfl) | (simp only [← hji3, ← hji4]; first | rfl | (simp [errW_none, errW_some] <;> rfl)) | (simp [*, errW_none, errW_some] <;> rfl), Kd.R_mono HO172.out (fun _ hk => trivial), HB.out⟩
  ·rw [if_neg c6] at H
   exact absurd H (by simp)
 ·rw [if_neg c5] at H
  exact absurd H (by simp)

/-! ### nat_sign: function 85 -/
def nat_sign.f (a0 : Int) : Option (Int) := if a0 < 0 then (some (-1)) else (if a0 > 0 then (some 1) else (some 0))
set_option maxHeartbeats 8000000 in
set_option maxRecDepth 100000 in
theorem nat_sign.calls (a0 : Int) (r : Int) (w : World) (h : nat_sign.f a0 = some r) :
  Calls Try.prog 85 #[.int .i64 a0] w fun e w' => e = .returned (.int .i64 r) ∧ Drawn0 w w' := by
 have H : (if a0 < 0 then (some (-1)) else (if a0 > 0 then (some 1) else (some 0))) = some r := h
 clear h
 by_cases c2 : a0 < 0
 ·rw [if_pos c2] at H
  have c2b0 : decide (a0 < 0) = true := decide_eq_true c2
  clear c2
  obtain rfl := Option.some.inj H
  go_enter Try.func85, Try.ntmps85
  go_wp2
  go_ret
  exact ⟨by first | rfl | (simp; done), by repeat (first | exact Drawn0.refl _ | apply Drawn0.step)⟩
 ·rw [if_neg c2] at H
  have c2b0 : decide (a0 < 0) = false := decide_eq_false c2
  clear c2
  by_cases c3 : a0 > 0
  ·rw [if_pos c3] at H
   have c3b0 : decide (0 < a0) = true := decide_eq_true c3
   clear c3
   obtain rfl := Option.some.inj H
   go_enter Try.func85, Try.ntmps85
   go_wp2
   go_ret
   exact ⟨by first | rfl | (simp; done), by repeat (first | exact Drawn0.refl _ | apply Drawn0.step)⟩
  ·rw [if_neg c3] at H
   have c3b0 : decide (0 < a0) = false := decide_eq_false c3
   clear c3
   obtain rfl := Option.some.inj H
   go_enter Try.func85, Try.ntmps85
   go_wp2
   go_ret
   exact ⟨by first | rfl | (simp; done), by repeat (first | exact Drawn0.refl _ | apply Drawn0.step)⟩

/-! ### nat_Cmp: function 67 -/
def nat_Cmp.l0 : Nat → List Int → List Int → Int → Option (Int)
 | 0, _, _, _ => none
 | k + 1, x0, x1, x5 => if x5 ≥ 0 then (if 0 ≤ x5 then (if x5 < (x0.length : Int) then (if x5 < (x1.length : Int) then (if (rd x0 x5) = (rd x1 x5) then (nat_Cmp.l0 k x0 x1 (wrap64 (x5 - 1))) else ((nat_sign.f (wrap64 ((wrap64 (rd x0 x5)) - (wrap64 (rd x1 x5))))).bind fun t184 => (some t184))) else (none)) else (none)) else (none)) else (some 0)
def nat_Cmp.f (k : Nat) (l0 : List Int) (l1 : List Int) : Option (Int) := (nat_Norm.f l0).bind fun t173 => ((nat_Norm.f l1).bind fun t176 => (if (t173.length : Int) = (t176.length : Int) then (nat_Cmp.l0 k t173 t176 (wrap64 ((t173.length : Int) - 1))) else ((nat_sign.f (wrap64 ((t173.length : Int) - (t176.length : Int)))).bind fun t179 => (some t179))))
set_option maxHeartbeats 8000000 in
set_option maxRecDepth 100000 in
theorem nat_Cmp.calls (k : Nat) (A0 : Option Addr) (c0 : Nat) (l0 : List Int) (A1 : Option Addr) (c1 : Nat) (l1 : List Int) (r : Int) (w : World) (hr0 : Kd.C (Kd.int .u32) w A0 l0.length l0) (hc0 : l0.length ≤ c0) (hr1 : Kd.C (Kd.int .u32) w A1 l1.length l1) (hc1 : l1.length ≤ c1) (h : nat_Cmp.f k l0 l1 = some r) :
  Calls Try.prog 67 #[.slice A0 l0.length c0, .slice A1 l1.length c1] w fun e w' => e = .returned (.int .i64 r) ∧ Below w.heap.size w w' := by
 have HR0 := Aside0.mk hr0
 have HC0 := Aside0.mk hc0
 clear hr0 hc0
 have HR1 := Aside0.mk hr1
 have HC1 := Aside0.mk hc1
 clear hr1 hc1
 have HB := Aside0.mk (Below.refl w.heap.size w)
 have H : ((nat_Norm.f l0).bind fun t173 => ((nat_Norm.f l1).bind fun t176 => (if (t173.length : Int) = (t176.length : Int) then (nat_Cmp.l0 k t173 t176 (wrap64 ((t173.length : Int) - 1))) else ((nat_sign.f (wrap64 ((t173.length : Int) - (t176.length : Int)))).bind fun t179 => (some t179))))) = some r := h
 clear h
 obtain ⟨t173, A30, H⟩ := Option.bind_eq_some_iff.mp H
 try dsimp only at H
 have A3 := Aside0.mk A30
 clear A30
 obtain ⟨t176, A40, H⟩ := Option.bind_eq_some_iff.mp H
 try dsimp only at H
 have A4 := Aside0.mk A40
 clear A40
 by_cases c5 : (t173.length : Int) = (t176.length : Int)
 ·rw [if_pos c5] at H
  have c5b0 : ((t173.length : Int) == (t176.length : Int)) = true := beq_iff_eq.mpr c5
  have c5b1 : ((t173.length : Int) != (t176.length : Int)) = false := bne_eq_false_iff_eq.mpr c5
  have c5b2 : (t173.length == t176.length) = true := by first | simpa using c5 | (simp at c5 ⊢; omega)
  clear c5
  have H' := Aside0.mk H
  clear H
  go_enter Try.func67, Try.ntmps67
  go_wp2_with (first | (go_at_call 83; (with_reducible refine (nat_Norm.calls _ _ l0 t173 _ ?side1 ?side2 A3.out).mono ?_); (case side1 => exact HR0.out); (case side2 => exact HC0.out); rintro e w6 ⟨v174, rfl, ho0, hb⟩; have n0_ := Aside0.mk (Kd.R_lower ho0 (below_size HB.out)); have n1_ := Aside0.mk (below_step HB.out hb); clear HB; have HO175 := n0_; have HB := n1_; clear n0_ n1_) | (go_at_call 83; (with_reducible refine (nat_Norm.calls _ _ l1 t176 _ ?side1 ?side2 A4.out).mono ?_); (case side1 => exact (Kd.C_below HR1.out HB.out)); (case side2 => exact HC1.out); rintro e w7 ⟨v177, rfl, ho0, hb⟩; have n0_ := Aside0.mk (Kd.R_elder' HO175.out (Kd.R_base ho0) hb); have n1_ := Aside0.mk (Kd.R_lower (Kd.R_new' ho0 (Kd.R_lt HO175.out)) (below_size HB.out)); have n2_ := Aside0.mk (below_step HB.out hb); clear HO175; clear HB; have HO175 := n0_; have HO178 := n1_; have HB := n2_; clear n0_ n1_ n2_; obtain ⟨Ao8, co8, eo8⟩ := Kd.R_slice HO175.out; subst eo8; obtain ⟨Ao9, co9, eo9⟩ := Kd.R_slice HO178.out; subst eo9))
  repeat (go_quiet (first | (go_at_call 83; (with_reducible refine (nat_Norm.calls _ _ l0 t173 _ ?side1 ?side2 A3.out).mono ?_); (case side1 => exact HR0.out); (case side2 => exact HC0.out); rintro e w6 ⟨v174, rfl, ho0, hb⟩; have n0_ := Aside0.mk (Kd.R_lower ho0 (below_size HB.out)); have n1_ := Aside0.mk (below_step HB.out hb); clear HB; have HO175 := n0_; have HB := n1_; clear n0_ n1_) | (go_at_call 83; (with_reducible refine (nat_Norm.calls _ _ l1 t176 _ ?side1 ?side2 A4.out).mono ?_); (case side1 => exact (Kd.C_below HR1.out HB.out)); (case side2 => exact HC1.out); rintro e w7 ⟨v177, rfl, ho0, hb⟩; have n0_ := Aside0.mk (Kd.R_elder' HO175.out (Kd.R_base ho0) hb); have n1_ := Aside0.mk (Kd.R_lower (Kd.R_new' ho0 (Kd.R_lt HO175.out)) (below_size HB.out)); have n2_ := Aside0.mk (below_step HB.out hb); clear HO175; clear HB; have HO175 := n0_; have HO178 := n1_; have HB := n2_; clear n0_ n1_ n2_; obtain ⟨Ao8, co8, eo8⟩ := Kd.R_slice HO175.out; subst eo8; obtain ⟨Ao9, co9, eo9⟩ := Kd.R_slice HO178.out; subst eo9)); try go_wp2_with (first | (go_at_call 83; (with_reducible refine (nat_Norm.calls _ _ l0 t173 _ ?side1 ?side2 A3.out).mono ?_); (case side1 => exact HR0.out); (case side2 => exact HC0.out); rintro e w6 ⟨v174, rfl, ho0, hb⟩; have n0_ := Aside0.mk (Kd.R_lower ho0 (below_size HB.out)); have n1_ := Aside0.mk (below_step HB.out hb); clear HB; have HO175 := n0_; have HB := n1_; clear n0_ n1_) | (go_at_call 83; (with_reducible refine (nat_Norm.calls _ _ l1 t176 _ ?side1 ?side2 A4.out).mono ?_); (case side1 => exact (Kd.C_below HR1.out HB.out)); (case side2 => exact HC1.out); rintro e w7 ⟨v177, rfl, ho0, hb⟩; have n0_ := Aside0.mk (Kd.R_elder' HO175.out (Kd.R_base ho0) hb); have n1_ := Aside0.mk (Kd.R_lower (Kd.R_new' ho0 (Kd.R_lt HO175.out)) (below_size HB.out)); have n2_ := Aside0.mk (below_step HB.out hb); clear HO175; clear HB; have HO175 := n0_; have HO178 := n1_; have HB := n2_; clear n0_ n1_ n2_; obtain ⟨Ao8, co8, eo8⟩ := Kd.R_slice HO175.out; subst eo8; obtain ⟨Ao9, co9, eo9⟩ := Kd.R_slice HO178.out; subst eo9)))
  go_loopg [5] k (fun kq v5 w' => ∃ (x5_1 : Int), v5 = .int .i64 x5_1 ∧ Aside0 (nat_Cmp.l0 kq t173 t176 x5_1 = some r) ∧ Aside0 (kq ≤ k) ∧ Aside0 (Kd.R (Kd.int .u32) 81 w' w.heap.size (fun k_ => some k_ ≠ ((.slice Ao9 t176.length co9) : Value).ownBlock) (.slice Ao8 t173.length co8) t173) ∧ Aside0 (Kd.R (Kd.int .u32) 81 w' w.heap.size (fun k_ => some k_ ≠ ((.slice Ao8 t173.length co8) : Value).ownBlock) (.slice Ao9 t176.length co9) t176) ∧ Aside0 (Below w.heap.size w w'))
  case atStart => exact ⟨(wrap64 ((t173.length : Int) - 1)), (by first | rfl | (simp; done)), H', ⟨Nat.le_refl _⟩, ⟨Kd.R_mono HO175.out (fun _ hk => hk.2)⟩, ⟨Kd.R_mono HO178.out (fun _ hk => hk.2)⟩, ⟨HB.out⟩⟩
  case round =>
   clear H'
   try clear c1
   try clear p2
   try clear c5
   try clear c5b0
   try clear c5b1
   try clear c5b2
   try clear c6
   try clear p6
   obtain ⟨x5_1, rfl, HA, HK1, HO_0, HO_1, HB⟩ := hrel
   cases gk with
   | zero => exact absurd HA.out (by simp [nat_Cmp.l0])
   | succ k1 =>
    have H := HA.out
    clear HA
    simp only [nat_Cmp.l0] at H
    by_cases c10 : x5_1 ≥ 0
    ·rw [if_pos c10] at H
     have c10b0 : decide (0 ≤ x5_1) = true := decide_eq_true c10
     clear c10
     by_cases c11 : 0 ≤ x5_1
     ·rw [if_pos c11] at H
      have c11b0 : decide (0 ≤ x5_1) = true := decide_eq_true c11
      clear c11
      by_cases c12 : x5_1 < (t173.length : Int)
      ·rw [if_pos c12] at H
       have c12b0 : decide (x5_1 < (t173.length : Int)) = true := decide_eq_true c12
       clear c12
       by_cases c13 : x5_1 < (t176.length : Int)
       ·rw [if_pos c13] at H
        have c13b0 : decide (x5_1 < (t176.length : Int)) = true := decide_eq_true c13
        clear c13
        by_cases c14 : (rd t173 x5_1) = (rd t176 x5_1)
        ·rw [if_pos c14] at H
         have c14b0 : ((rd t173 x5_1) == (rd t176 x5_1)) = true := beq_iff_eq.mpr c14
         have c14b1 : ((rd t173 x5_1) != (rd t176 x5_1)) = false := bne_eq_false_iff_eq.mpr c14
         clear c14
         have H' := Aside0.mk H
         clear H
         have p180 : 0 ≤ (x5_1 : Int) := of_decide_eq_true (by first | (with_reducible assumption) | assumption)
         have q180 : x5_1 < (t173.length : Int) := of_decide_eq_true (by first | (with_reducible assumption) | assumption)
         obtain ⟨ad180, e180, hx180_0⟩ := Kd.at_int (Kd.R_reads' HO_0.out).2.2 x5_1 p180 q180
         cases e180
         replace p180 := eq_true p180
         replace q180 := eq_true q180
         have p181 : 0 ≤ (x5_1 : Int) := of_decide_eq_true (by first | (with_reducible assumption) | assumption)
         have q181 : x5_1 < (t176.length : Int) := of_decide_eq_true (by first | (with_reducible assumption) | assumption)
         obtain ⟨ad181, e181, hx181_0⟩ := Kd.at_int (Kd.R_reads' HO_1.out).2.2 x5_1 p181 q181
         cases e181
         replace p181 := eq_true p181
         replace q181 := eq_true q181
         go_wp2
         repeat (go_quiet (fail); try go_wp2)
         go_roundg k1
         case measure => have := HK1.out; omega
         case rel => exact ⟨(wrap64 (x5_1 - 1)), (by first | rfl | (simp; done) | (simp [*]; done) | (refine congrArg (Value.int _) ?_; omega) | (refine congrArg Value.bool ?_; generalize ByteArray.toList _ = z_; cases z_ <;> rfl)), H', ⟨by have := HK1.out; omega⟩, ⟨by (with_reducible repeat (first | apply Kd.R_alloc | apply Kd.R_drewN | apply Kd.R_drew)); exact HO_0.out⟩, ⟨by (with_reducible repeat (first | apply Kd.R_alloc | apply Kd.R_drewN | apply Kd.R_drew)); exact HO_1.out⟩, ⟨by repeat first | exact HB.out | refine bxSet ?_ (by assumption) | apply below_alloc | apply pw_below_drewN⟩⟩
        ·rw [if_neg c14] at H
         have c14b0 : ((rd t173 x5_1) == (rd t176 x5_1)) = false := beq_eq_false_iff_ne.mpr c14
         have c14b1 : ((rd t173 x5_1) != (rd t176 x5_1)) = true := bne_iff_ne.mpr c14
         obtain ⟨t184, A150, H⟩ := Option.bind_eq_some_iff.mp H
         try dsimp only at H
         have A15 := Aside0.mk A150
         clear A150
         obtain rfl := Option.some.inj H
         have p180 : 0 ≤ (x5_1 : Int) := of_decide_eq_true (by first | (with_reducible assumption) | assumption)
         have q180 : x5_1 < (t173.length : Int) := of_decide_eq_true (by first | (with_reducible assumption) | assumption)
         obtain ⟨ad180, e180, hx180_0⟩ := Kd.at_int (Kd.R_reads' HO_0.out).2.2 x5_1 p180 q180
         cases e180
         replace p180 := eq_true p180
         replace q180 := eq_true q180
         have p181 : 0 ≤ (x5_1 : Int) := of_decide_eq_true (by first | (with_reducible assumption) | assumption)
         have q181 : x5_1 < (t176.length : Int) := of_decide_eq_true (by first | (with_reducible assumption) | assumption)
         obtain ⟨ad181, e181, hx181_0⟩ := Kd.at_int (Kd.R_reads' HO_1.out).2.2 x5_1 p181 q181
         cases e181
         replace p181 := eq_true p181
         replace q181 := eq_true q181
         have p182 : 0 ≤ (x5_1 : Int) := of_decide_eq_true (by first | (with_reducible assumption) | assumption)
         have q182 : x5_1 < (t173.length : Int) := of_decide_eq_true (by first | (with_reducible assumption) | assumption)
         obtain ⟨ad182, e182, hx182_0⟩ := Kd.at_int (Kd.R_reads' HO_0.out).2.2 x5_1 p182 q182
         obtain rfl : ad180 = ad182 := (by injection e182)
         replace p182 := eq_true p182
         replace q182 := eq_true q182
         have p183 : 0 ≤ (x5_1 : Int) := of_decide_eq_true (by first | (with_reducible assumption) | assumption)
         have q183 : x5_1 < (t176.length : Int) := of_decide_eq_true (by first | (with_reducible assumption) | assumption)
         obtain ⟨ad183, e183, hx183_0⟩ := Kd.at_int (Kd.R_reads' HO_1.out).2.2 x5_1 p183 q183
         obtain rfl : ad181 = ad183 := (by injection e183)
         replace p183 := eq_true p183
         replace q183 := eq_true q183
         go_wp2_with (first | (go_at_call 85; (with_reducible refine (nat_sign.calls (wrap64 ((wrap64 (rd t173 x5_1)) - (wrap64 (rd t176 x5_1)))) t184 _ A15.out).mono ?_); rintro e w' ⟨rfl, ⟨nd, rfl⟩⟩; (try first | exact ⟨rfl, _, World.drewN_drewN _ _ _⟩ | exact ⟨rfl, _, Eq.trans (World.drewN_drewN _ _ _) (congrArg (World.drewN _) (Nat.add_assoc _ _ _))⟩)))
         repeat (go_quiet (first | (go_at_call 85; (with_reducible refine (nat_sign.calls (wrap64 ((wrap64 (rd t173 x5_1)) - (wrap64 (rd t176 x5_1)))) t184 _ A15.out).mono ?_); rintro e w' ⟨rfl, ⟨nd, rfl⟩⟩; (try first | exact ⟨rfl, _, World.drewN_drewN _ _ _⟩ | exact ⟨rfl, _, Eq.trans (World.drewN_drewN _ _ _) (congrArg (World.drewN _) (Nat.add_assoc _ _ _))⟩))); try go_wp2_with (first | (go_at_call 85; (with_reducible refine (nat_sign.calls (wrap64 ((wrap64 (rd t173 x5_1)) - (wrap64 (rd t176 x5_1)))) t184 _ A15.out).mono ?_); rintro e w' ⟨rfl, ⟨nd, rfl⟩⟩; (try first | exact ⟨rfl, _, World.drewN_drewN _ _ _⟩ | exact ⟨rfl, _, Eq.trans (World.drewN_drewN _ _ _) (congrArg (World.drewN _) (Nat.add_assoc _ _ _))⟩))))
         go_ret
         exact ⟨by first | rfl | (simp [errW_none, errW_some] <;> rfl) | (refine congrArg (fun z_ => Ending.returned (Value.bool z_)) (decide_eq_decide.mpr ?_); unfold wrap64; omega) | (simp [*, errW_none, errW_some] <;> rfl), by repeat first | exact HB.out | refine bxSet ?_ (by assumption) | apply below_alloc | apply pw_below_drewN⟩
       ·rw [if_neg c13] at H
        exact absurd H (by simp)
      ·rw [if_neg c12] at H
       exact absurd H (by simp)
     ·rw [if_neg c11] at H
      exact absurd H (by simp)
    ·rw [if_neg c10] at H
     have c10b0 : decide (0 ≤ x5_1) = false := decide_eq_false c10
     clear c10
     obtain rfl := Option.some.inj H
     go_wp2
     repeat (go_quiet (fail); try go_wp2)
     go_ret
     exact ⟨by first | rfl | (simp [errW_none, errW_some] <;> rfl) | (refine congrArg (fun z_ => Ending.returned (Value.bool z_)) (decide_eq_decide.mpr ?_); unfold wrap64; omega) | (simp [*, errW_none, errW_some] <;> rfl), HB.out⟩
 ·rw [if_neg c5] at H
  have c5b0 : ((t173.length : Int) == (t176.length : Int)) = false := beq_eq_false_iff_ne.mpr c5
  have c5b1 : ((t173.length : Int) != (t176.length : Int)) = true := bne_iff_ne.mpr c5
  have c5b2 : (t173.length == t176.length) = false := by first | simpa using c5 | (simp at c5 ⊢; omega)
  obtain ⟨t179, A160, H⟩ := Option.bind_eq_some_iff.mp H
  try dsimp only at H
  have A16 := Aside0.mk A160
  clear A160
  obtain rfl := Option.some.inj H
  go_enter Try.func67, Try.ntmps67
  go_wp2_with (first | (go_at_call 83; (with_reducible refine (nat_Norm.calls _ _ l0 t173 _ ?side1 ?side2 A3.out).mono ?_); (case side1 => exact HR0.out); (case side2 => exact HC0.out); rintro e w17 ⟨v174, rfl, ho0, hb⟩; have n0_ := Aside0.mk (Kd.R_lower ho0 (below_size HB.out)); have n1_ := Aside0.mk (below_step HB.out hb); clear HB; have HO175 := n0_; have HB := n1_; clear n0_ n1_) | (go_at_call 83; (with_reducible refine (nat_Norm.calls _ _ l1 t176 _ ?side1 ?side2 A4.out).mono ?_); (case side1 => exact (Kd.C_below HR1.out HB.out)); (case side2 => exact HC1.out); rintro e w18 ⟨v177, rfl, ho0, hb⟩; have n0_ := Aside0.mk (Kd.R_elder' HO175.out (Kd.R_base ho0) hb); have n1_ := Aside0.mk (Kd.R_lower (Kd.R_new' ho0 (Kd.R_lt HO175.out)) (below_size HB.out)); have n2_ := Aside0.mk (below_step HB.out hb); clear HO175; clear HB; have HO175 := n0_; have HO178 := n1_; have HB := n2_; clear n0_ n1_ n2_; obtain ⟨Ao19, co19, eo19⟩ := Kd.R_slice HO175.out; subst eo19; obtain ⟨Ao20, co20, eo20⟩ := Kd.R_slice HO178.out; subst eo20) | (go_at_call 85; (with_reducible refine (nat_sign.calls (wrap64 ((t173.length : Int) - (t176.length : Int))) t179 _ A16.out).mono ?_); rintro e w' ⟨rfl, ⟨nd, rfl⟩⟩; (try first | exact ⟨rfl, _, World.drewN_drewN _ _ _⟩ | exact ⟨rfl, _, Eq.trans (World.drewN_drewN _ _ _) (congrArg (World.drewN _) (Nat.add_assoc _ _ _))⟩)))
  repeat (go_quiet (first | (go_at_call 83; (with_reducible refine (nat_Norm.calls _ _ l0 t173 _ ?side1 ?side2 A3.out).mono ?_); (case side1 => exact HR0.out); (case side2 => exact HC0.out); rintro e w17 ⟨v174, rfl, ho0, hb⟩; have n0_ := Aside0.mk (Kd.R_lower ho0 (below_size HB.out)); have n1_ := Aside0.mk (below_step HB.out hb); clear HB; have HO175 := n0_; have HB := n1_; clear n0_ n1_) | (go_at_call 83; (with_reducible refine (nat_Norm.calls _ _ l1 t176 _ ?side1 ?side2 A4.out).mono ?_); (case side1 => exact (Kd.C_below HR1.out HB.out)); (case side2 => exact HC1.out); rintro e w18 ⟨v177, rfl, ho0, hb⟩; have n0_ := Aside0.mk (Kd.R_elder' HO175.out (Kd.R_base ho0) hb); have n1_ := Aside0.mk (Kd.R_lower (Kd.R_new' ho0 (Kd.R_lt HO175.out)) (below_size HB.out)); have n2_ := Aside0.mk (below_step HB.out hb); clear HO175; clear HB; have HO175 := n0_; have HO178 := n1_; have HB := n2_; clear n0_ n1_ n2_; obtain ⟨Ao19, co19, eo19⟩ := Kd.R_slice HO175.out; subst eo19; obtain ⟨Ao20, co20, eo20⟩ := Kd.R_slice HO178.out; subst eo20) | (go_at_call 85; (with_reducible refine (nat_sign.calls (wrap64 ((t173.length : Int) - (t176.length : Int))) t179 _ A16.out).mono ?_); rintro e w' ⟨rfl, ⟨nd, rfl⟩⟩; (try first | exact ⟨rfl, _, World.drewN_drewN _ _ _⟩ | exact ⟨rfl, _, Eq.trans (World.drewN_drewN _ _ _) (congrArg (World.drewN _) (Nat.add_assoc _ _ _))⟩))); try go_wp2_with (first | (go_at_call 83; (with_reducible refine (nat_Norm.calls _ _ l0 t173 _ ?side1 ?side2 A3.out).mono ?_); (case side1 => exact HR0.out); (case side2 => exact HC0.out); rintro e w17 ⟨v174, rfl, ho0, hb⟩; have n0_ := Aside0.mk (Kd.R_lower ho0 (below_size HB.out)); have n1_ := Aside0.mk (below_step HB.out hb); clear HB; have HO175 := n0_; have HB := n1_; clear n0_ n1_) | (go_at_call 83; (with_reducible refine (nat_Norm.calls _ _ l1 t176 _ ?side1 ?side2 A4.out).mono ?_); (case side1 => exact (Kd.C_below HR1.out HB.out)); (case side2 => exact HC1.out); rintro e w18 ⟨v177, rfl, ho0, hb⟩; have n0_ := Aside0.mk (Kd.R_elder' HO175.out (Kd.R_base ho0) hb); have n1_ := Aside0.mk (Kd.R_lower (Kd.R_new' ho0 (Kd.R_lt HO175.out)) (below_size HB.out)); have n2_ := Aside0.mk (below_step HB.out hb); clear HO175; clear HB; have HO175 := n0_; have HO178 := n1_; have HB := n2_; clear n0_ n1_ n2_; obtain ⟨Ao19, co19, eo19⟩ := Kd.R_slice HO175.out; subst eo19; obtain ⟨Ao20, co20, eo20⟩ := Kd.R_slice HO178.out; subst eo20) | (go_at_call 85; (with_reducible refine (nat_sign.calls (wrap64 ((t173.length : Int) - (t176.length : Int))) t179 _ A16.out).mono ?_); rintro e w' ⟨rfl, ⟨nd, rfl⟩⟩; (try first | exact ⟨rfl, _, World.drewN_drewN _ _ _⟩ | exact ⟨rfl, _, Eq.trans (World.drewN_drewN _ _ _) (congrArg (World.drewN _) (Nat.add_assoc _ _ _))⟩))))
  go_ret
  exact ⟨by first | rfl | (simp [errW_none, errW_some] <;> rfl) | (refine congrArg (fun z_ => Ending.returned (Value.bool z_)) (decide_eq_decide.mpr ?_); unfold wrap64; omega) | (simp [*, errW_none, errW_some] <;> rfl), by repeat first | exact HB.out | refine bxSet ?_ (by assumption) | apply below_alloc | apply pw_below_drewN⟩

/-! ### nat_Sub: function 68 -/
def nat_Sub.l0 : Nat → List Int → List Int → List Int → Int → Int → Int → Option (List Int × Int)
 | 0, _, _, _, _, _, _ => none
 | k + 1, x0, x1, x6, x7, x18, x19 => if x19 < x18 then ((nat_limb.f x0 x19).bind fun t189 => ((nat_limb.f x1 x19).bind fun t190 => (if 0 ≤ x19 then (if x19 < (x6.length : Int) then (nat_Sub.l0 k x0 x1 (x6.set (x19 : Int).toNat ((IntKind.u64.wrap ((IntKind.u64.wrap (t189 - t190)) - x7)) % 4294967296)) ((IntKind.u64.wrap ((IntKind.u64.wrap (t189 - t190)) - x7)) / 9223372036854775808) x18 (wrap64 (x19 + 1))) else (none)) else (none)))) else ((nat_Norm.f x6).bind fun t192 => (some (t192, 0)))
def nat_Sub.f (k : Nat) (l0 : List Int) (l1 : List Int) : Option (List Int × Int) := (nat_Cmp.f k l0 l1).bind fun t185 => (if t185 < 0 then (some (([] : List Int), 6)) else (if 0 ≤ (l0.length : Int) then (if ((l0.length : Int) : Int).toNat ≤ 70368744177664 then ((some (List.replicate ((l0.length : Int) : Int).toNat 0 : List Int)).bind fun y186 => (nat_Sub.l0 k l0 l1 y186 0 (y186.length : Int) 0)) else (none)) else (none)))
set_option maxHeartbeats 8000000 in
set_option maxRecDepth 100000 in
theorem nat_Sub.calls (k : Nat) (A0 : Option Addr) (c0 : Nat) (l0 : List Int) (A1 : Option Addr) (c1 : Nat) (l1 : List Int) (r1 : List Int) (r2 : Int) (w : World) (hr0 : Kd.C (Kd.int .u32) w A0 l0.length l0) (hc0 : l0.length ≤ c0) (hr1 : Kd.C (Kd.int .u32) w A1 l1.length l1) (hc1 : l1.length ≤ c1) (h : nat_Sub.f k l0 l1 = some (r1, r2)) :
  Calls Try.prog 68 #[.slice A0 l0.length c0, .slice A1 l1.length c1] w fun e w' => ∃ v0_ : Value, e = .returned (.tuple #[v0_, .int .i64 r2]) ∧ Kd.R (Kd.int .u32) 81 w' w.heap.size (fun _ => True) v0_ r1 ∧ Below w.heap.size w w' := by
 have HR0 := Aside0.mk hr0
 have HC0 := Aside0.mk hc0
 clear hr0 hc0
 have HR1 := Aside0.mk hr1
 have HC1 := Aside0.mk hc1
 clear hr1 hc1
 have HB := Aside0.mk (Below.refl w.heap.size w)
 have H : ((nat_Cmp.f k l0 l1).bind fun t185 => (if t185 < 0 then (some (([] : List Int), 6)) else (if 0 ≤ (l0.length : Int) then (if ((l0.length : Int) : Int).toNat ≤ 70368744177664 then ((some (List.replicate ((l0.length : Int) : Int).toNat 0 : List Int)).bind fun y186 => (nat_Sub.l0 k l0 l1 y186 0 (y186.length : Int) 0)) else (none)) else (none)))) = some (r1, r2) := h
 clear h
 obtain ⟨t185, A30, H⟩ := Option.bind_eq_some_iff.mp H
 try dsimp only at H
 have A3 := Aside0.mk A30
 clear A30
 by_cases c4 : t185 < 0
 ·rw [if_pos c4] at H
  have c4b0 : decide (t185 < 0) = true := decide_eq_true c4
  clear c4
  simp only [Option.some.injEq, Prod.mk.injEq] at H
  obtain ⟨rfl, rfl⟩ := H
  go_enter Try.func68, Try.ntmps68
  go_wp2_with (first | ((with_reducible refine gate_callee (f := 67) rfl ?_); refine goL (some 12) Try.func67 [.slice A0 l0.length c0, .slice A1 l1.length c1] ?_; (with_reducible refine (nat_Cmp.calls k _ _ l0 _ _ l1 t185 _ ?side1 ?side2 ?side3 ?side4 A3.out).mono ?_); (case side1 => exact HR0.out); (case side2 => exact HC0.out); (case side3 => exact HR1.out); (case side4 => exact HC1.out); rintro e w5 ⟨rfl, hb⟩; refine ⟨_, rfl, ?_⟩; replace HB := Aside0.mk (below_step HB.out hb); (try clear hb); (try clear hb2); (try clear hk); (try clear hi)))
  go_ret2
  exact ⟨_, rfl, by first | exact Kd.R_nil _ _ _ _ _ | exact Kd.N_nil _ _ _ _ _ | exact Kd.V_nil _ _ _ _ _ | exact Kd.Q_nil _ _ _ _ _ | exact Kd.S_nil _ _ _ _ _, HB.out⟩
 ·rw [if_neg c4] at H
  have c4b0 : decide (t185 < 0) = false := decide_eq_false c4
  clear c4
  by_cases c6 : 0 ≤ (l0.length : Int)
  ·rw [if_pos c6] at H
   have c6b0 := eq_true c6
   have c6b1 : decide (0 ≤ (l0.length : Int)) = true := decide_eq_true c6
   clear c6
   by_cases c7 : ((l0.length : Int) : Int).toNat ≤ 70368744177664
   ·rw [if_pos c7] at H
    have c7b0 := eq_true c7
    have c7b1 : decide (((l0.length : Int) : Int).toNat ≤ 70368744177664) = true := decide_eq_true c7
    clear c7
    obtain ⟨y186, hy186⟩ : ∃ y_ : List Int, y_ = (List.replicate ((l0.length : Int) : Int).toNat 0) := ⟨_, rfl⟩
    replace H : (nat_Sub.l0 k l0 l1 y186 0 (y186.length : Int) 0) = some (r1, r2) := by first | (rw [hy186]; with_reducible exact H) | (have H2_ := (Option.bind_some _ _).symm.trans H; rw [hy186]; with_reducible exact H2_) | (have H2_ := (Option.bind_some _ _).symm.trans H; with_reducible exact H2_) | with_reducible exact H | (rw [hy186]; exact H) | exact H
    have Ny186 := Aside0.mk hy186
    clear hy186
    have H' := Aside0.mk H
    clear H
    go_enter Try.func68, Try.ntmps68
    go_wp2_with (first | ((with_reducible refine gate_callee (f := 67) rfl ?_); refine goL (some 12) Try.func67 [.slice A0 l0.length c0, .slice A1 l1.length c1] ?_; (with_reducible refine (nat_Cmp.calls k _ _ l0 _ _ l1 t185 _ ?side1 ?side2 ?side3 ?side4 A3.out).mono ?_); (case side1 => exact HR0.out); (case side2 => exact HC0.out); (case side3 => exact HR1.out); (case side4 => exact HC1.out); rintro e w8 ⟨rfl, hb⟩; refine ⟨_, rfl, ?_⟩; replace HB := Aside0.mk (below_step HB.out hb); (try clear hb); (try clear hb2); (try clear hk); (try clear hi)) | ((with_reducible refine gate_dst (N := 16) rfl ?_); refine Kd.R_make (Kd.int .u32) _ 81 rfl (N := 16) rfl 22 _ _ rfl (l0.length : Int) rfl rfl Try.underlying22 (.int .u32 0) 4 info81 rfl (by decide) (by omega) 0 (ok := fun _ => True) (okp := fun _ => True) rfl (fun _ hk => hk) trivial (of_decide_eq_true (by first | (with_reducible assumption) | assumption)) (Nat.le_trans (Nat.mul_le_mul_right _ (of_decide_eq_true (by first | (with_reducible assumption) | assumption) : (l0.length : Int).toNat ≤ 70368744177664)) (by omega)) (Below.refl _ _) (Nat.le_refl _) ?_; intro v187 w9 ho10 hb hg_ hnew_; clear hg_ hnew_; (first | rw [← Ny186.out] at ho10 | (simp only [Int.reduceToNat] at ho10; rw [← Ny186.out] at ho10)); have HO188 := Aside0.mk (Kd.R_lower ho10 (below_size HB.out)); replace HB := Aside0.mk (below_step HB.out hb); clear hb ho10; obtain ⟨Ao11, co11, eo11⟩ := Kd.R_slice HO188.out; subst eo11))
    go_loopg [7, 19] k (fun kq v7 v19 w' => ∃ (x6_1 : List Int) (x7_1 : Int) (x19_1 : Int), v7 = .int .u64 x7_1 ∧ v19 = .int .i64 x19_1 ∧ Aside0 (nat_Sub.l0 kq l0 l1 x6_1 x7_1 (y186.length : Int) x19_1 = some (r1, r2)) ∧ Aside0 (kq ≤ k) ∧ Aside0 (Kd.R (Kd.int .u32) 81 w' w.heap.size (fun _ => True) (.slice Ao11 y186.length co11) x6_1) ∧ Aside0 (Below w.heap.size w w'))
    case atStart => exact ⟨(y186), (0), (0), (by first | rfl | (simp; done)), (by first | rfl | (simp; done)), H', ⟨Nat.le_refl _⟩, ⟨HO188.out⟩, ⟨HB.out⟩⟩
    case round =>
     clear H'
     try clear c1
     try clear p2
     try clear c4
     try clear c4b0
     try clear c6
     try clear c6b0
     try clear c6b1
     try clear c7
     try clear c7b0
     try clear c7b1
     obtain ⟨x6_1, x7_1, x19_1, rfl, rfl, HA, HK1, HO_6, HB⟩ := hrel
     have hl6_1 := (Kd.R_reads' HO_6.out).1
     rw [hl6_1] at HO_6
     (try simp only [hl6_1])
     cases gk with
     | zero => exact absurd HA.out (by simp [nat_Sub.l0])
     | succ k1 =>
      have H := HA.out
      clear HA
      simp only [nat_Sub.l0] at H
      by_cases c12 : x19_1 < (y186.length : Int)
      ·rw [if_pos c12] at H
       have c12b0 : decide (x19_1 < (y186.length : Int)) = true := decide_eq_true c12
       have c12b0z := c12b0
       (try rw [hl6_1] at c12b0z)
       clear c12
       obtain ⟨t189, A130, H⟩ := Option.bind_eq_some_iff.mp H
       try dsimp only at H
       have A13 := Aside0.mk A130
       clear A130
       obtain ⟨t190, A140, H⟩ := Option.bind_eq_some_iff.mp H
       try dsimp only at H
       have A14 := Aside0.mk A140
       clear A140
       by_cases c15 : 0 ≤ x19_1
       ·rw [if_pos c15] at H
        have c15b0 : decide (0 ≤ x19_1) = true := decide_eq_true c15
        clear c15
        by_cases c16 : x19_1 < (x6_1.length : Int)
        ·rw [if_pos c16] at H
         have c16b0 : decide (x19_1 < (x6_1.length : Int)) = true := decide_eq_true c16
         have c16b0z := c16b0
         (try rw [hl6_1] at c16b0z)
         clear c16
         obtain ⟨y191, hy191⟩ : ∃ y_ : List Int, y_ = (x6_1.set (x19_1 : Int).toNat ((IntKind.u64.wrap ((IntKind.u64.wrap (t189 - t190)) - x7_1)) % 4294967296)) := ⟨_, rfl⟩
         replace H : (nat_Sub.l0 k1 l0 l1 y191 ((IntKind.u64.wrap ((IntKind.u64.wrap (t189 - t190)) - x7_1)) / 9223372036854775808) (y186.length : Int) (wrap64 (x19_1 + 1))) = some (r1, r2) := by first | (rw [hy191]; with_reducible exact H) | (have H2_ := (Option.bind_some _ _).symm.trans H; rw [hy191]; with_reducible exact H2_) | (have H2_ := (Option.bind_some _ _).symm.trans H; with_reducible exact H2_) | with_reducible exact H | (rw [hy191]; exact H) | exact H
         have Ny191 := Aside0.mk hy191
         clear hy191
         have H' := Aside0.mk H
         clear H
         go_wp2_with (first | ((with_reducible refine gate_callee (f := 84) rfl ?_); refine goL (some 24) Try.func84 [.slice A0 l0.length c0, .int .i64 x19_1] ?_; (with_reducible refine (nat_limb.calls _ _ l0 x19_1 t189 _ ?side1 ?side2 A13.out).mono ?_); (case side1 => repeat (first | exact (Kd.C_below HR0.out HB.out) | (with_reducible refine Kd.C_alloc ?_ _) | (with_reducible refine Kd.C_drewN ?_ _) | (with_reducible refine Kd.C_drew ?_))); (case side2 => exact HC0.out); rintro e w' ⟨rfl, ⟨nd, rfl⟩⟩; refine ⟨_, rfl, ?_⟩; (try (rw [drewN_self wr]; generalize hq_ : World.drewN wr _ = wr; have n0_ : Aside0 (Kd.R (Kd.int .u32) 81 wr w.heap.size (fun _ => True) (.slice Ao11 x6_1.length co11) x6_1) := ⟨by rw [← hq_]; exact (by (with_reducible repeat (first | apply Kd.R_alloc | apply Kd.R_drewN | apply Kd.R_drew)); exact HO_6.out)⟩; have n1_ : Aside0 (Below w.heap.size w wr) := ⟨by rw [← hq_]; exact (by repeat first | exact HB.out | refine bxSet ?_ (by assumption) | apply below_alloc | apply pw_below_drewN)⟩; clear HO_6 HB hq_; have HO_6 := n0_; have HB := n1_; clear n0_ n1_))) | ((with_reducible refine gate_callee (f := 84) rfl ?_); refine goL (some 27) Try.func84 [.slice A1 l1.length c1, .int .i64 x19_1] ?_; (with_reducible refine (nat_limb.calls _ _ l1 x19_1 t190 _ ?side1 ?side2 A14.out).mono ?_); (case side1 => repeat (first | exact (Kd.C_below HR1.out HB.out) | (with_reducible refine Kd.C_alloc ?_ _) | (with_reducible refine Kd.C_drewN ?_ _) | (with_reducible refine Kd.C_drew ?_))); (case side2 => exact HC1.out); rintro e w' ⟨rfl, ⟨nd, rfl⟩⟩; refine ⟨_, rfl, ?_⟩; (try (rw [drewN_self wr]; generalize hq_ : World.drewN wr _ = wr; have n0_ : Aside0 (Kd.R (Kd.int .u32) 81 wr w.heap.size (fun _ => True) (.slice Ao11 x6_1.length co11) x6_1) := ⟨by rw [← hq_]; exact (by (with_reducible repeat (first | apply Kd.R_alloc | apply Kd.R_drewN | apply Kd.R_drew)); exact HO_6.out)⟩; have n1_ : Aside0 (Below w.heap.size w wr) := ⟨by rw [← hq_]; exact (by repeat first | exact HB.out | refine bxSet ?_ (by assumption) | apply below_alloc | apply pw_below_drewN)⟩; clear HO_6 HB hq_; have HO_6 := n0_; have HB := n1_; clear n0_ n1_)); have p17 : 0 ≤ (x19_1 : Int) := of_decide_eq_true (by first | (with_reducible assumption) | assumption); have q17 : (x19_1 : Int) < ((x6_1.length : Int) : Int) := of_decide_eq_true (by first | (with_reducible assumption) | assumption); obtain ⟨go17, co17, eo17, gb17, gl17, cl17, HG17⟩ := Kd.R_form HO_6.out (by omega); (first | cases eo17 | (injection eo17 with ea_ en_ ec_; (first | subst ea_ | (injection ea_ with ea_; subst ea_)); subst ec_; clear en_)); have GB17 := Aside0.mk gb17; have GG17 := Aside0.mk HG17; clear gb17 gl17 HG17; obtain ⟨hx17_0, hf17_0⟩ := Kd.R_celln 0 HO_6.out (x19_1 : Int) p17 q17; replace p17 := eq_true p17; replace q17 := eq_true q17; obtain ⟨hy18_, hz18_⟩ := Kd.R_celln 0 HO_6.out (x19_1 : Int) (of_decide_eq_true (by first | (with_reducible assumption) | assumption)) (of_decide_eq_true (by first | (with_reducible assumption) | assumption)); have HP18 := Kd.R_putg HO_6.out (x19_1 : Int) ((IntKind.u64.wrap ((IntKind.u64.wrap (t189 - t190)) - x7_1)) % 4294967296)) | ((with_reducible refine gate_store (t := 81) (p := 35) rfl ?_); refine store_event (t := 81) (p := 35) (v := ?vo_w19) (w1 := (wr.setCell ⟨go17, (x19_1 : Int).toNat, none⟩ (.int .u32 ((IntKind.u64.wrap ((IntKind.u64.wrap (t189 - t190)) - x7_1)) % 4294967296)))) ?hg ?ho ?hn ?hr ?_; (case ho => rfl); (case hg => rfl); (case hn => rfl); (case hr => first | (go_simp; done) | (go_simp; rfl)); intro w19 hw; have hg : wr.grownBy w19 (some go17) := (by rw [hw]; exact HP18.2); have hp_ : Kd.R (Kd.int .u32) 81 w19 w.heap.size (fun _ => True) (.slice (some ⟨go17, 0, none⟩) x6_1.length co11) y191 := (by rw [hw, Ny191.out]; exact HP18.1); clear HP18; replace HO_6 := Aside0.mk (hp_); replace HB := Aside0.mk ((by rw [hw]; exact below_set (HB.out) GB17.out : Below w.heap.size w w19)); clear hg hw hp_))
         (try simp only [← hl6_1])
         go_roundg k1
         case measure => have := HK1.out; omega
         case rel => exact ⟨(y191), ((IntKind.u64.wrap ((IntKind.u64.wrap (t189 - t190)) - x7_1)) / 9223372036854775808), (wrap64 (x19_1 + 1)), (by first | rfl | (simp; done)), (by first | rfl | (simp; done)), H', ⟨by have := HK1.out; omega⟩, ⟨by (try simp only [hl6_1]); (with_reducible repeat (first | apply Kd.R_alloc | apply Kd.R_drewN | apply Kd.R_drew)); exact HO_6.out⟩, ⟨HB.out⟩⟩
        ·rw [if_neg c16] at H
         exact absurd H (by simp)
       ·rw [if_neg c15] at H
        exact absurd H (by simp)
      ·rw [if_neg c12] at H
       have c12b0 : decide (x19_1 < (y186.length : Int)) = false := decide_eq_false c12
       have c12b0z := c12b0
       (try rw [hl6_1] at c12b0z)
       clear c12
       obtain ⟨t192, A200, H⟩ := Option.bind_eq_some_iff.mp H
       try dsimp only at H
       have A20 := Aside0.mk A200
       clear A200
       simp only [Option.some.injEq, Prod.mk.injEq] at H
       obtain ⟨rfl, rfl⟩ := H
       go_wp2_with (first | ((with_reducible refine gate_callee (f := 83) rfl ?_); refine goL (some 40) Try.func83 [.slice Ao11 x6_1.length co11] ?_; (with_reducible refine (nat_Norm.calls _ _ x6_1 t192 _ ?side1 ?side2 A20.out).mono ?_); (case side1 => exact (Kd.R_reads' HO_6.out).2.2); (case side2 => exact (Kd.R_reads' HO_6.out).2.1); rintro e w21 ⟨v193, rfl, ho0, hb⟩; refine ⟨_, rfl, ?_⟩; have HO194 := Aside0.mk (Kd.R_lower (Kd.R_new' ho0 (Kd.R_lt HO_6.out)) (below_size HB.out)); replace HB := Aside0.mk (below_step HB.out hb)))
       go_ret2
       exact ⟨_, rfl, Kd.R_mono HO194.out (fun _ hk => trivial), HB.out⟩
   ·rw [if_neg c7] at H
    exact absurd H (by simp)
  ·rw [if_neg c6] at H
   exact absurd H (by simp)

end Go.Proofs.Ytdicjemjmlbmlaa.PA
/- What nat's functions compute, as numbers: the order, sums, differences, products, a number by a small one, moved bits. -/
namespace Go.Proofs.Ytdicjemjmlbmlaa.V
set_option linter.unusedVariables false
set_option linter.unusedSimpArgs false
open Go.RowKit Go.Proofs.Ytdicjemjmlbmlaa.PA Go.Proofs.Ytdicjemjmlbmlaa.H Go.Proofs.YtdicjemjmlbmlaaW.PrintWords Go.Proofs.YtdicjemjmlbmlaaW.PrintLast Go.Proofs.YtdicjemjmlbmlaaW.PrintMore

theorem w64 {x : Int} (h0 : -9223372036854775808 ≤ x) (h1 : x ≤ 9223372036854775807) : wrap64 x = x := by unfold wrap64; omega
theorem w11 : wrap64 2 = 2 := w64 (by omega) (by omega)
theorem w21 : wrap64 3 = 3 := w64 (by omega) (by omega)
theorem u64 {x : Int} (h0 : 0 ≤ x) (h1 : x < 18446744073709551616) : IntKind.u64.wrap x = x := by rw [IntKind.wrap_u64]; omega
theorem u64e (x : Int) : IntKind.u64.wrap x = x % 18446744073709551616 := IntKind.wrap_u64 x
theorem rd_get (l : List Int) (i : Nat) (h : i < l.length) : rd l (i : Int) = l[i] := by simp [rd, h]
theorem rd_D (l : List Int) (i : Nat) : rd l (i : Int) = l.getD i 0 := by simp [rd]
theorem Lim.getD {l : List Int} (h : Lim l) (i : Nat) : 0 ≤ l.getD i 0 ∧ l.getD i 0 < 4294967296 := by
  by_cases hi : i < l.length
  · have := h.get i hi
    simpa [List.getD_eq_getElem?_getD, hi] using this
  · rw [List.getD_eq_getElem?_getD, List.getElem?_eq_none (by omega)]
    simp
theorem norm_ev (l : List Int) (h : Lim l) (hn : l.length ≤ 1000000000000) : nat_Norm.f l = some (dig (val l)) := by
  unfold nat_Norm.f
  rw [if_pos hn]
  unfold normL
  rw [dropWhile_zeros l h]
theorem limb_ev (l : List Int) (i : Nat) (h : Lim l) : nat_limb.f l (i : Int) = some (l.getD i 0) := by
  have hg := h.getD i
  unfold nat_limb.f
  by_cases hi : i < l.length
  · rw [if_neg (by omega), if_pos (by omega), if_pos (by omega), rd_D, u64 hg.1 (by omega)]
  · rw [if_pos (by omega), List.getD_eq_getElem?_getD, List.getElem?_eq_none (by omega)]
    rfl
theorem sign_ev (n : Int) : nat_sign.f n = some (if n < 0 then -1 else if n > 0 then 1 else 0) := by
  unfold nat_sign.f
  split
  · rfl
  · split <;> rfl
/-- The order of two numbers. -/
def cmpI (a b : Int) : Int := if a < b then -1 else if b < a then 1 else 0
theorem val_lt_of_length {a b : List Int} (ha : Lim a) (hb : Lim b) (hl : a.length < b.length) (hne : ∀ h : b ≠ [], b.getLast h ≠ 0) : val a < val b := by
  have h1 := val_lt ha
  obtain ⟨b', x, rfl⟩ : ∃ b' x, b = b' ++ [x] := by
    have hb0 : b ≠ [] := by rintro rfl; simp at hl
    exact ⟨b.dropLast, b.getLast hb0, (List.dropLast_concat_getLast hb0).symm⟩
  have hx : x ≠ 0 := by simpa using hne (by simp)
  have hx0 := (hb x (by simp)).1
  rw [val_append]
  have h2 := val_nonneg hb.left
  have h3 : pw a.length ≤ pw b'.length := by
    simp at hl
    obtain ⟨d, hd⟩ := Nat.exists_eq_add_of_le (show a.length ≤ b'.length by omega)
    rw [hd, pw_add]
    have := pw_pos a.length
    have := pw_pos d
    calc pw a.length = pw a.length * 1 := by omega
      _ ≤ _ := Int.mul_le_mul_of_nonneg_left (by omega) (by omega)
  have h4 : pw b'.length * 1 ≤ pw b'.length * val [x] := Int.mul_le_mul_of_nonneg_left (by simp [val]; omega) (Int.le_of_lt (pw_pos _))
  omega
theorem cmp_l0 (a b : List Int) (ha : Lim a) (hb : Lim b) (hl : a.length = b.length) (hn : a.length ≤ 1000000000000) (d : Nat) (hd : d ≤ a.length) (he : a.drop d = b.drop d) :
    Ev (fun k => nat_Cmp.l0 k a b ((d : Int) - 1)) (cmpI (val a) (val b)) := by
  induction d with
  | zero =>
    simp only [List.drop_zero] at he
    refine Ev.step (f := fun _ => some _) (fun k => ?_) (Ev.now _)
    simp only [nat_Cmp.l0]
    rw [if_neg (by omega), he]
    unfold cmpI
    rw [if_neg (by omega), if_neg (by omega)]
  | succ d ih =>
    have hda : d < a.length := by omega
    have hdb : d < b.length := by omega
    have e0 : ((d + 1 : Nat) : Int) - 1 = (d : Int) := by omega
    rw [e0]
    have xa := ha.get d hda
    have xb := hb.get d hdb
    by_cases hx : a[d] = b[d]
    · refine Ev.step (fun k => ?_) (ih (by omega) (by rw [List.drop_eq_getElem_cons hda, List.drop_eq_getElem_cons hdb, he, hx]))
      simp only [nat_Cmp.l0]
      rw [if_pos (by omega), if_pos (by omega), if_pos (by omega), if_pos (by omega), rd_get _ _ hda, rd_get _ _ hdb, if_pos hx, w64 (by omega) (by omega)]
    · refine Ev.step (f := fun _ => some _) (fun k => ?_) (Ev.now _)
      simp only [nat_Cmp.l0]
      rw [if_pos (by omega), if_pos (by omega), if_pos (by omega), if_pos (by omega), rd_get _ _ hda, rd_get _ _ hdb, if_neg hx, w64 (x := a[d]) (by omega) (by omega), w64 (x := b[d]) (by omega) (by omega), w64 (by omega) (by omega), sign_ev]
      simp only [Option.bind_some]
      have e1 := val_take_drop a (d + 1) hd
      have e2 := val_take_drop b (d + 1) (by omega)
      rw [he] at e1
      rw [val_take_succ a d hda] at e1
      rw [val_take_succ b d hdb] at e2
      have b1 := val_nonneg (ha.take d)
      have b2 := val_nonneg (hb.take d)
      have b3 := val_lt (ha.take d)
      have b4 := val_lt (hb.take d)
      rw [List.length_take, Nat.min_eq_left (by omega)] at b3 b4
      unfold cmpI
      congr 1
      by_cases hlt : a[d] < b[d]
      · have h5 : pw d * (a[d] + 1) ≤ pw d * b[d] := Int.mul_le_mul_of_nonneg_left (by omega) (Int.le_of_lt (pw_pos _))
        rw [Int.mul_add, Int.mul_one] at h5
        rw [if_pos (by omega), if_pos (by omega)]
      · have h5 : pw d * (b[d] + 1) ≤ pw d * a[d] := Int.mul_le_mul_of_nonneg_left (by omega) (Int.le_of_lt (pw_pos _))
        rw [Int.mul_add, Int.mul_one] at h5
        rw [if_neg (by omega), if_pos (by omega), if_neg (by omega), if_pos (by omega)]
theorem dig_length (l : List Int) (h : Lim l) : (dig (val l)).length ≤ l.length := dig_length_le (val_nonneg h) (val_lt h)
theorem cmp_ev (a b : List Int) (ha : Lim a) (hb : Lim b) (hna : a.length ≤ 1000000000000) (hnb : b.length ≤ 1000000000000) : Ev (fun k => nat_Cmp.f k a b) (cmpI (val a) (val b)) := by
  have va := val_nonneg ha
  have vb := val_nonneg hb
  have la := dig_length a ha
  have lb := dig_length b hb
  by_cases hl : (dig (val a)).length = (dig (val b)).length
  · have := cmp_l0 (dig (val a)) (dig (val b)) (dig_lim _) (dig_lim _) hl (by omega) _ (Nat.le_refl _) (by rw [List.drop_eq_nil_of_le (by omega), List.drop_eq_nil_of_le (by omega)])
    rw [val_dig va, val_dig vb] at this
    refine Ev.congr (fun k => ?_) this
    unfold nat_Cmp.f
    rw [norm_ev a ha hna, norm_ev b hb hnb]
    simp only [Option.bind_some]
    rw [if_pos (by omega), w64 (by omega) (by omega)]
  · refine Ev.congr (f := fun _ => some _) (fun k => ?_) (Ev.now _)
    unfold nat_Cmp.f
    rw [norm_ev a ha hna, norm_ev b hb hnb]
    simp only [Option.bind_some]
    rw [if_neg (by omega), w64 (by omega) (by omega), sign_ev]
    simp only [Option.bind_some]
    congr 1
    unfold cmpI
    by_cases hlt : (dig (val a)).length < (dig (val b)).length
    · have := val_lt_of_length (dig_lim _) (dig_lim _) hlt (fun h => dig_last h)
      rw [val_dig va, val_dig vb] at this
      rw [if_pos (by omega), if_pos (by omega)]
    · have := val_lt_of_length (dig_lim _) (dig_lim _) (show (dig (val b)).length < (dig (val a)).length by omega) (fun h => dig_last h)
      rw [val_dig va, val_dig vb] at this
      rw [if_neg (by omega), if_pos (by omega), if_neg (by omega), if_pos (by omega)]
theorem of_ev (n : Int) (h0 : 0 ≤ n) (h1 : n < 18446744073709551616) : nat_Of.f n = some (dig n) := by
  unfold nat_Of.f
  rw [norm_ev _ (Lim.cons (by omega) (by omega) (Lim.cons (by omega) (by omega) Lim.nil)) (by simp)]
  simp only [Option.bind_some, val]
  congr 2
  omega
theorem pw_le_pw {a b : Nat} (h : a ≤ b) : pw a ≤ pw b := by
  obtain ⟨d, rfl⟩ := Nat.exists_eq_add_of_le h
  rw [pw_add]
  have := pw_pos a
  have := pw_pos d
  calc pw a = pw a * 1 := by omega
    _ ≤ _ := Int.mul_le_mul_of_nonneg_left (by omega) (by omega)

/-! ### sums -/
theorem step_add {P V A Bv c x y q r : Int} (h : V + P * c = A + Bv) (e : r + 4294967296 * q = c + (x + y)) : V + P * r + (4294967296 * P) * q = A + P * x + (Bv + P * y) := by grind
theorem add_l0 (a b : List Int) (ha : Lim a) (hb : Lim b) (n : Nat) (hna : a.length < n) (hnb : b.length < n) (hn : n ≤ 1000000000000) (d : Nat) : ∀ (i : Nat) (out : List Int) (c : Int), i + d = n → out.length = n → Lim out → 0 ≤ c → c ≤ 1 → val (out.take i) + pw i * c = val (a.take i) + val (b.take i) →
    Ev (fun k => nat_Add.l0 k a b out c (n : Int) (i : Int)) (dig (val a + val b)) := by
  induction d with
  | zero =>
    intro i out c hi ho hL c0 c1 hv
    obtain rfl : i = n := by omega
    refine Ev.step (f := fun _ => some _) (fun k => ?_) (Ev.now _)
    simp only [nat_Add.l0]
    rw [if_neg (by omega), norm_ev out hL (by omega)]
    simp only [Option.bind_some]
    rw [List.take_of_length_le (by omega), List.take_of_length_le (by omega), List.take_of_length_le (by omega)] at hv
    have h1 := val_lt ha
    have h2 := val_lt hb
    have h3 := val_nonneg hL
    obtain ⟨m, rfl⟩ : ∃ m, i = m + 1 := ⟨i - 1, by omega⟩
    have h4 := pw_le_pw (show a.length ≤ m by omega)
    have h5 := pw_le_pw (show b.length ≤ m by omega)
    have h6 := pw_succ m
    have h7 := pw_pos m
    have hc : c = 0 := by
      by_cases hc : c = 0
      · exact hc
      · have : c = 1 := by omega
        subst this
        omega
    subst hc
    congr 2
    omega
  | succ d ih =>
    intro i out c hi ho hL c0 c1 hv
    have ga := ha.getD i
    have gb := hb.getD i
    have hio : i < out.length := by omega
    refine Ev.step (fun k => ?_) (ih (i + 1) (out.set i ((c + (a.getD i 0 + b.getD i 0)) % 4294967296)) ((c + (a.getD i 0 + b.getD i 0)) / 4294967296) (by omega) (by simpa using ho) (hL.set i (by omega) (by omega)) (by omega) (by omega) ?_)
    · simp only [nat_Add.l0]
      rw [if_pos (by omega), limb_ev a i ha, limb_ev b i hb]
      simp only [Option.bind_some]
      rw [if_pos (by omega), if_pos (by omega), u64 (x := a.getD i 0 + b.getD i 0) (by omega) (by omega), u64 (by omega) (by omega), w64 (by omega) (by omega), Int.toNat_natCast]
      rfl
    · rw [val_set_take _ _ _ hio, val_take_getD a, val_take_getD b, pw_succ]
      exact step_add hv (by omega)
theorem mx_len (a b : List Int) : mx (a.length : Int) (b.length : Int) = ((max a.length b.length : Nat) : Int) := by unfold mx; split <;> omega
theorem add_ev (a b : List Int) (ha : Lim a) (hb : Lim b) (hna : a.length < 1000000000) (hnb : b.length < 1000000000) : Ev (fun k => nat_Add.f k a b) (dig (val a + val b)) := by
  have := add_l0 a b ha hb (max a.length b.length + 1) (by omega) (by omega) (by omega) (max a.length b.length + 1) 0 (List.replicate (max a.length b.length + 1) 0) 0 (by omega) (by simp) (Lim.zeros _) (by omega) (by omega) (by simp [val])
  refine Ev.congr (fun k => ?_) this
  unfold nat_Add.f
  rw [mx_len, w64 (by omega) (by omega), if_pos (by omega), if_pos (by omega)]
  congr 1 <;> omega

end Go.Proofs.Ytdicjemjmlbmlaa.V
/- Written by a program of this session, wip/tools/patch_print.py, over the kit's print of the loaded functions. -/
namespace Go.Proofs.Ytdicjemjmlbmlaa.H
end Go.Proofs.Ytdicjemjmlbmlaa.H
namespace Go.Proofs.Ytdicjemjmlbmlaa.PA
open Go.RowKit Go.Proofs.YtdicjemjmlbmlaaW.PrintWords Go.Proofs.YtdicjemjmlbmlaaW.PrintLast Go.Proofs.YtdicjemjmlbmlaaW.PrintMore Go.Proofs.Ytdicjemjmlbmlaa.H
attribute [local go_sem] max2_int min2_int max_two min_two max_three min_three max_four min_four   -- for this text's walks alone
attribute [local go_sem] box_twice
set_option linter.unusedVariables false
set_option linter.unusedSimpArgs false

/-! ### whole_Add: function 36 -/
def whole_Add.f (k : Nat) (a0_0 : Bool) (l0_1 : List Int) (a1_0 : Bool) (l1_1 : List Int) : Option (Bool × List Int) := if (a0_0 == a1_0) = true then ((nat_Add.f k l0_1 l1_1).bind fun t198 => ((whole_made.f a0_0 t198).bind fun bt201 => (some (bt201.1, bt201.2)))) else ((nat_Cmp.f k l0_1 l1_1).bind fun t205 => (if t205 < 0 then ((nat_Sub.f k l1_1 l0_1).bind fun bt206 => ((whole_made.f a1_0 bt206.1).bind fun bt210 => (some (bt210.1, bt210.2)))) else ((nat_Sub.f k l0_1 l1_1).bind fun bt214 => ((whole_made.f a0_0 bt214.1).bind fun bt218 => (some (bt218.1, bt218.2))))))
def whole_Add.T2 : Bool × List (List Nat × List Nat) := (true, [([], []), ([0], [0]), ([], []), ([2], [2]), ([], []), ([4], [4]), ([3, 5], [3, 5]), ([1, 6, 6], [1, 6]), ([7, 7, 0, 1, 2, 3, 4, 5, 6, 7], [7])])
def whole_Add.B2 : List Nat := [0, 1, 0, 4, 0, 16, 60, 127, 255]
theorem whole_Add.tab2 : rtab .any (opsOf Try.f36 2) = whole_Add.T2 := by kernel_rfl
theorem whole_Add.bits2 : waitsOk whole_Add.T2.2 whole_Add.B2 = true := by kernel_rfl
set_option maxHeartbeats 8000000 in
set_option maxRecDepth 100000 in
theorem whole_Add.calls (k : Nat) (a0_0 : Bool) (A0_1 : Option Addr) (c0_1 : Nat) (l0_1 : List Int) (a1_0 : Bool) (A1_1 : Option Addr) (c1_1 : Nat) (l1_1 : List Int) (r1 : Bool) (r2 : List Int) (w : World) (hr0_1 : Kd.C (Kd.int .u32) w A0_1 l0_1.length l0_1) (hc0_1 : l0_1.length ≤ c0_1) (hr1_1 : Kd.C (Kd.int .u32) w A1_1 l1_1.length l1_1) (hc1_1 : l1_1.length ≤ c1_1) (h : whole_Add.f k a0_0 l0_1 a1_0 l1_1 = some (r1, r2)) :
  Calls Try.prog 36 #[.agg #[.bool a0_0, .slice A0_1 l0_1.length c0_1], .agg #[.bool a1_0, .slice A1_1 l1_1.length c1_1]] w fun e w' => ∃ v1_ : Value, e = .returned (.agg #[.bool r1, v1_]) ∧ Kd.R (Kd.int .u32) 81 w' w.heap.size (fun _ => True) v1_ r2 ∧ Below w.heap.size w w' := by
 have hu24 := Try.underlying24
 have HR0_1 := Aside0.mk hr0_1
 have HC0_1 := Aside0.mk hc0_1
 clear hr0_1 hc0_1
 have HR1_1 := Aside0.mk hr1_1
 have HC1_1 := Aside0.mk hc1_1
 clear hr1_1 hc1_1
 have HB := Aside0.mk (Below.refl w.heap.size w)
 have H : (if (a0_0 == a1_0) = true then ((nat_Add.f k l0_1 l1_1).bind fun t198 => ((whole_made.f a0_0 t198).bind fun bt201 => (some (bt201.1, bt201.2)))) else ((nat_Cmp.f k l0_1 l1_1).bind fun t205 => (if t205 < 0 then ((nat_Sub.f k l1_1 l0_1).bind fun bt206 => ((whole_made.f a1_0 bt206.1).bind fun bt210 => (some (bt210.1, bt210.2)))) else ((nat_Sub.f k l0_1 l1_1).bind fun bt214 => ((whole_made.f a0_0 bt214.1).bind fun bt218 => (some (bt218.1, bt218.2))))))) = some (r1, r2) := h
 clear h
 by_cases c3 : (a0_0 == a1_0) = true
 ·rw [if_pos c3] at H
  have c3b0 : (a0_0 == a1_0) = true := c3
  (try (have c3b1 : decide (a0_0 = a1_0) = true := by simpa using c3))
  (try (have c3b2 : (a0_0 == a1_0) = true := by simpa using c3))
  clear c3
  obtain ⟨t198, A40, H⟩ := Option.bind_eq_some_iff.mp H
  try dsimp only at H
  have A4 := Aside0.mk A40
  clear A40
  obtain ⟨⟨t201, t202⟩, A50, H⟩ := Option.bind_eq_some_iff.mp H
  try dsimp only at H
  have A5 := Aside0.mk A50
  clear A50
  simp only [Option.some.injEq, Prod.mk.injEq] at H
  obtain ⟨rfl, rfl⟩ := H
  go_enter Try.func36, Try.ntmps36
  try go_wp2_with (first | ((with_reducible refine gate_dst (N := 2) rfl ?_); refine box_event ?hg (N := 2) ?hd (cs := #[.bool a0_0, .slice A0_1 l0_1.length c0_1]) (t := 24) ?hr ?_; (case hd => rfl); (case hg => rfl); (case hr => first | (go_simp; done) | (go_simp; rfl)); intro gb195 hg w6 hbox hb; have BK195 := Aside0.mk (hbox); have GW195 := Aside0.mk (bxLe HB.out hg); have GE195 := GW195; replace HB := Aside0.mk (below_step HB.out hb); clear hb hbox hg) | ((with_reducible refine gate_dst (N := 3) rfl ?_); refine box_event ?hg (N := 3) ?hd (cs := #[.bool a1_0, .slice A1_1 l1_1.length c1_1]) (t := 24) ?hr ?_; (case hd => rfl); (case hg => rfl); (case hr => first | (go_simp; done) | (go_simp; rfl)); intro gb196 hg w7 hbox hb; have BK196 := Aside0.mk (hbox); have GW196 := Aside0.mk (bxLe HB.out hg); have GE196 := GW196; replace HB := Aside0.mk (below_step HB.out hb); have NB195_196 := Aside0.mk (neL BK195.out hg); have NB196_195 := Aside0.mk (neR BK195.out hg); replace BK195 := Aside0.mk (blk_below BK195.out hb); clear hb hbox hg) | ((with_reducible refine gate_dst (N := 4) rfl ?_); refine box_event ?hg (N := 4) ?hd (cs := #[.bool false, .slice none 0 0]) (t := 24) ?hr ?_; (case hd => rfl); (case hg => rfl); (case hr => first | (go_simp; done) | (go_simp; rfl)); intro gb197 hg w8 hbox hb; have BK197 := Aside0.mk (hbox); have GW197 := Aside0.mk (bxLe HB.out hg); have GE197 := GW197; replace HB := Aside0.mk (below_step HB.out hb); have NB195_197 := Aside0.mk (neL BK195.out hg); have NB197_195 := Aside0.mk (neR BK195.out hg); replace BK195 := Aside0.mk (blk_below BK195.out hb); have NB196_197 := Aside0.mk (neL BK196.out hg); have NB197_196 := Aside0.mk (neR BK196.out hg); replace BK196 := Aside0.mk (blk_below BK196.out hb); clear hb hbox hg; have hnb9 := NB195_196.out; have hnc9 := NB196_195.out; have hnb10 := NB195_197.out; have hnc10 := NB197_195.out; have hcz11_0 : w8.cell? ⟨gb195, 0, none⟩ = some (.bool a0_0) := bc0 BK195.out; have hcz11_1 : w8.cell? ⟨gb195, 1, none⟩ = some (.slice A0_1 l0_1.length c0_1) := bc1 BK195.out; have hfz11_0 := blk_frozen BK195.out 0; have hfz11_1 := blk_frozen BK195.out 1; have hnb12 := NB196_197.out; have hnc12 := NB197_196.out; have hcz13_0 : w8.cell? ⟨gb196, 0, none⟩ = some (.bool a1_0) := bc0 BK196.out; have hcz13_1 : w8.cell? ⟨gb196, 1, none⟩ = some (.slice A1_1 l1_1.length c1_1) := bc1 BK196.out; have hfz13_0 := blk_frozen BK196.out 0; have hfz13_1 := blk_frozen BK196.out 1))
  replace BK195 := Aside0.mk (blk_drew BK195.out)
  replace BK196 := Aside0.mk (blk_drew BK196.out)
  replace BK197 := Aside0.mk (blk_drew BK197.out)
  replace HB := Aside0.mk (below_drew1 HB.out)
  refine start_ (n := 9) (S := fun w' => w'.cell? ⟨gb195, 0, none⟩ = some (.bool a0_0) ∧ w'.cell? ⟨gb195, 1, none⟩ = some (.slice A0_1 l0_1.length c0_1) ∧ w'.cell? ⟨gb196, 0, none⟩ = some (.bool a1_0) ∧ w'.cell? ⟨gb196, 1, none⟩ = some (.slice A1_1 l1_1.length c1_1)) (ds := []) #[false, false, false, false, false, false, false, false, false] (by kernel_rfl) rfl rfl ⟨bc0 BK195.out, bc1 BK195.out, bc0 BK196.out, bc1 BK196.out⟩ (fun hHeld => ?_); refine with_tabW whole_Add.tab2 whole_Add.bits2 (fun HT_ HW_ => ?_)
  generalize w8.drew = w14 at BK195 BK196 BK197 HB hHeld ⊢
  refine pure_ (i := 0) (N := some 12) (v := ?_) (a' := ?_) #[true, false, false, false, false, false, false, false, false] rfl rfl (any_of HT_.out (by kernel_rfl)) (fun _ _ _ h => h) (Or.inl ⟨by rfl, ?_⟩) ?_ ?_
  rotate_left
  ·intro w'
   go_simp
   with_reducible rfl
  rotate_left
  ·simp only [Act.put, List.setIfInBounds_toArray, List.set_cons_zero, List.set_cons_succ, i64_w, i32_w]
   rfl
  refine pure_ (i := 2) (N := some 14) (v := ?_) (a' := ?_) #[true, false, true, false, false, false, false, false, false] rfl rfl (any_of HT_.out (by kernel_rfl)) (fun _ _ _ h => h) (Or.inl ⟨by rfl, ?_⟩) ?_ ?_
  rotate_left
  ·intro w'
   go_simp
   with_reducible rfl
  rotate_left
  ·simp only [Act.put, List.setIfInBounds_toArray, List.set_cons_zero, List.set_cons_succ, i64_w, i32_w]
   rfl
  refine pure_ (i := 4) (N := some 16) (v := ?_) (a' := ?_) #[true, false, true, false, true, false, false, false, false] rfl rfl (any_of HT_.out (by kernel_rfl)) (fun _ _ _ h => h) (Or.inl ⟨by rfl, ?_⟩) ?_ ?_
  rotate_left
  ·intro w'
   go_simp
   with_reducible rfl
  rotate_left
  ·simp only [Act.put, List.setIfInBounds_toArray, List.set_cons_zero, List.set_cons_succ, i64_w, i32_w]
   rfl
  refine take_ (i := 1) (N := some 13) (v := ?_) (a' := ?_) #[true, true, true, false, true, false, false, false, false] rfl rfl (take_ofW HT_.out HW_.out (by kernel_rfl)) (fun _ _ _ h => h) (Or.inl ⟨by rfl, ?_⟩) hHeld ?_ ?_
  rotate_left
  ·rintro w' ⟨s0, s1, s2, s3⟩
   go_simp
   with_reducible rfl
  rotate_left
  ·simp only [Act.put, List.setIfInBounds_toArray, List.set_cons_zero, List.set_cons_succ, i64_w, i32_w]
   rfl
  refine take_ (i := 3) (N := some 15) (v := ?_) (a' := ?_) #[true, true, true, true, true, false, false, false, false] rfl rfl (take_ofW HT_.out HW_.out (by kernel_rfl)) (fun _ _ _ h => h) (Or.inl ⟨by rfl, ?_⟩) hHeld ?_ ?_
  rotate_left
  ·rintro w' ⟨s0, s1, s2, s3⟩
   go_simp
   with_reducible rfl
  rotate_left
  ·simp only [Act.put, List.setIfInBounds_toArray, List.set_cons_zero, List.set_cons_succ, i64_w, i32_w]
   rfl
  refine take_ (i := 5) (N := some 17) (v := ?_) (a' := ?_) #[true, true, true, true, true, true, false, false, false] rfl rfl (take_ofW HT_.out HW_.out (by kernel_rfl)) (fun _ _ _ h => h) (Or.inl ⟨by rfl, ?_⟩) hHeld ?_ ?_
  rotate_left
  ·rintro w' ⟨s0, s1, s2, s3⟩
   go_simp
   with_reducible rfl
  rotate_left
  ·simp only [Act.put, List.setIfInBounds_toArray, List.set_cons_zero, List.set_cons_succ, i64_w, i32_w]
   rfl
  refine one_ (i := 6) (N := some 18) #[true, true, true, true, true, true, true, false, false] rfl rfl (one_of HT_.out (by kernel_rfl)) (by decide) (fun K hK => ?_)
  refine goR Try.func66 [.slice A0_1 l0_1.length c0_1, .slice A1_1 l1_1.length c1_1] ?_
  with_reducible refine (nat_Add.calls k _ _ l0_1 _ _ l1_1 t198 _ ?side1 ?side2 ?side3 ?side4 A4.out).mono ?_
  (case side1 => exact (Kd.C_below HR0_1.out HB.out))
  (case side2 => exact HC0_1.out)
  (case side3 => exact (Kd.C_below HR1_1.out HB.out))
  (case side4 => exact HC1_1.out)
  rintro e w15 ⟨v199, rfl, ho0, hb⟩
  refine ⟨_, rfl, ?_⟩
  have HO200 := Aside0.mk (Kd.R_lower ho0 (below_size HB.out))
  replace BK195 := Aside0.mk (blk_below BK195.out hb)
  replace BK196 := Aside0.mk (blk_below BK196.out hb)
  replace BK197 := Aside0.mk (blk_below BK197.out hb)
  replace HB := Aside0.mk (below_step HB.out hb)
  (try clear hb)
  (try clear hb2)
  (try clear hk)
  (try clear hi)
  (try clear ho0)
  obtain ⟨Ao16, co16, eo16⟩ := Kd.R_slice HO200.out
  subst eo16
  refine hK.out _ _ ⟨bc0 BK195.out, bc1 BK195.out, bc0 BK196.out, bc1 BK196.out⟩ (fun hHeld => ?_)
  clear hK K
  refine norm_ (a' := ?_) ?_ ?_
  rotate_left
  ·show Act.put _ (some 18) _ = _
   simp only [Act.put, List.setIfInBounds_toArray, List.set_cons_zero, List.set_cons_succ, i64_w, i32_w]
   rfl
  refine one_ (i := 7) (N := some 19) #[true, true, true, true, true, true, true, true, false] rfl rfl (one_of HT_.out (by kernel_rfl)) (by decide) (fun K hK => ?_)
  refine goR Try.func63 [.bool a0_0, .slice Ao16 t198.length co16] ?_
  with_reducible refine (whole_made.calls a0_0 _ _ t198 t201 t202 _ ?side1 ?side2 A5.out).mono ?_
  (case side1 => exact (Kd.R_reads' HO200.out).2.2)
  (case side2 => exact (Kd.R_reads' HO200.out).2.1)
  rintro e w17 ⟨v203, rfl, ho0, hb⟩
  refine ⟨_, rfl, ?_⟩
  have HO204 := Aside0.mk (Kd.R_lower (Kd.R_new' ho0 (Kd.R_lt HO200.out)) (below_size HB.out))
  replace BK195 := Aside0.mk (blk_below BK195.out hb)
  replace BK196 := Aside0.mk (blk_below BK196.out hb)
  replace BK197 := Aside0.mk (blk_below BK197.out hb)
  replace HB := Aside0.mk (below_step HB.out hb)
  (try clear hb)
  (try clear hb2)
  (try clear hk)
  (try clear hi)
  (try clear ho0)
  obtain ⟨Ao19, co19, eo19⟩ := Kd.R_slice HO204.out
  subst eo19
  refine hK.out _ _ ⟨bc0 BK195.out, bc1 BK195.out, bc0 BK196.out, bc1 BK196.out⟩ (fun hHeld => ?_)
  clear hK K
  refine norm_ (a' := ?_) ?_ ?_
  rotate_left
  ·show Act.put _ (some 19) _ = _
   simp only [Act.put, List.setIfInBounds_toArray, List.set_cons_zero, List.set_cons_succ, i64_w, i32_w]
   rfl
  refine one_ (i := 8) (N := none) #[true, true, true, true, true, true, true, true, true] rfl rfl (one_of HT_.out (by kernel_rfl)) (by decide) (fun K hK => ?_)
  have hs18 : w17.cell? ⟨gb197, 0, none⟩ = some (.bool false) := bc0 BK197.out
  have hfs18 := blk_frozen BK197.out 0
  have hns18_0 := NB195_197.out
  have hns18_1 := NB196_197.out
  have hms18_0 := NB197_195.out
  have hms18_1 := NB197_196.out
  have hs20 : w17.cell? ⟨gb197, 1, none⟩ = some (.slice none 0 0) := bc1 BK197.out
  have hfs20 := blk_frozen BK197.out 1
  have hns20_0 := NB195_197.out
  have hns20_1 := NB196_197.out
  have hms20_0 := NB197_195.out
  have hms20_1 := NB197_196.out
  refine skip_ (w1 := ?_) (by rfl) rfl ?_ ?_
  rotate_left
  ·go_simp
   rfl
  refine hK.out _ _ ⟨((cell_far (p := ⟨gb197, _, none⟩) NB195_197.out _).trans (((cell_far (p := ⟨gb197, _, none⟩) NB195_197.out _).trans (hHeld.1)))), ((cell_far (p := ⟨gb197, _, none⟩) NB195_197.out _).trans (((cell_far (p := ⟨gb197, _, none⟩) NB195_197.out _).trans (hHeld.2.1)))), ((cell_far (p := ⟨gb197, _, none⟩) NB196_197.out _).trans (((cell_far (p := ⟨gb197, _, none⟩) NB196_197.out _).trans (hHeld.2.2.1)))), ((cell_far (p := ⟨gb197, _, none⟩) NB196_197.out _).trans (((cell_far (p := ⟨gb197, _, none⟩) NB196_197.out _).trans (hHeld.2.2.2))))⟩ (fun hHeld => ?_)
  clear hK K
  refine done_ (done_of HT_.out (by kernel_rfl)) ?_
  try go_wp2
  refine bodyPost_ret (results_cell_row rfl _ _ gb197 24 #[.bool t201, .slice Ao19 t202.length co19] (0, 0) _ rfl (by refine blk_put (cs := #[.bool t201, .slice none 0 0]) ?_ 1 _ rfl; refine blk_put (cs := #[.bool false, .slice none 0 0]) ?_ 0 _ rfl; exact BK197.out) Try.underlying24 rfl (by kernel_rfl)) rfl ?_
  exact ⟨_, rfl, Kd.R_mono (Kd.R_far (p := ⟨gb197, 1, none⟩) (Kd.R_far (p := ⟨gb197, 0, none⟩) (Kd.R_types HO204.out BK197.out (by decide)) (fun _ hk => hk.2) (.bool t201)) (fun _ hk => hk.2) (.slice Ao19 t202.length co19)) (fun _ hk => trivial), by repeat first | exact HB.out | refine bxSet ?_ (by assumption) | apply below_alloc | apply pw_below_drewN⟩
 ·rw [if_neg c3] at H
  have c3b0 : (a0_0 == a1_0) = false := by simpa using c3
  (try (have c3b1 : decide (a0_0 = a1_0) = false := by simpa using c3))
  (try (have c3b2 : (a0_0 == a1_0) = false := by simpa using c3))
  (try (have c3b3 : ¬ (a0_0 = a1_0) := by simpa using c3))
  clear c3
  obtain ⟨t205, A210, H⟩ := Option.bind_eq_some_iff.mp H
  try dsimp only at H
  have A21 := Aside0.mk A210
  clear A210
  by_cases c22 : t205 < 0
  ·rw [if_pos c22] at H
   have c22b0 : decide (t205 < 0) = true := decide_eq_true c22
   clear c22
   obtain ⟨⟨t206, t207⟩, A230, H⟩ := Option.bind_eq_some_iff.mp H
   try dsimp only at H
   have A23 := Aside0.mk A230
   clear A230
   obtain ⟨⟨t210, t211⟩, A240, H⟩ := Option.bind_eq_some_iff.mp H
   try dsimp only at H
   have A24 := Aside0.mk A240
   clear A240
   simp only [Option.some.injEq, Prod.mk.injEq] at H
   obtain ⟨rfl, rfl⟩ := H
   go_enter Try.func36, Try.ntmps36
   go_wp2_with (first | ((with_reducible refine gate_dst (N := 2) rfl ?_); refine box_event ?hg (N := 2) ?hd (cs := #[.bool a0_0, .slice A0_1 l0_1.length c0_1]) (t := 24) ?hr ?_; (case hd => rfl); (case hg => rfl); (case hr => first | (go_simp; done) | (go_simp; rfl)); intro gb195 hg w25 hbox hb; have BK195 := Aside0.mk (hbox); have GW195 := Aside0.mk (bxLe HB.out hg); have GE195 := GW195; replace HB := Aside0.mk (below_step HB.out hb); clear hb hbox hg) | ((with_reducible refine gate_dst (N := 3) rfl ?_); refine box_event ?hg (N := 3) ?hd (cs := #[.bool a1_0, .slice A1_1 l1_1.length c1_1]) (t := 24) ?hr ?_; (case hd => rfl); (case hg => rfl); (case hr => first | (go_simp; done) | (go_simp; rfl)); intro gb196 hg w26 hbox hb; have BK196 := Aside0.mk (hbox); have GW196 := Aside0.mk (bxLe HB.out hg); have GE196 := GW196; replace HB := Aside0.mk (below_step HB.out hb); have NB195_196 := Aside0.mk (neL BK195.out hg); have NB196_195 := Aside0.mk (neR BK195.out hg); replace BK195 := Aside0.mk (blk_below BK195.out hb); clear hb hbox hg) | ((with_reducible refine gate_dst (N := 4) rfl ?_); refine box_event ?hg (N := 4) ?hd (cs := #[.bool false, .slice none 0 0]) (t := 24) ?hr ?_; (case hd => rfl); (case hg => rfl); (case hr => first | (go_simp; done) | (go_simp; rfl)); intro gb197 hg w27 hbox hb; have BK197 := Aside0.mk (hbox); have GW197 := Aside0.mk (bxLe HB.out hg); have GE197 := GW197; replace HB := Aside0.mk (below_step HB.out hb); have NB195_197 := Aside0.mk (neL BK195.out hg); have NB197_195 := Aside0.mk (neR BK195.out hg); replace BK195 := Aside0.mk (blk_below BK195.out hb); have NB196_197 := Aside0.mk (neL BK196.out hg); have NB197_196 := Aside0.mk (neR BK196.out hg); replace BK196 := Aside0.mk (blk_below BK196.out hb); clear hb hbox hg; have hnb28 := NB195_196.out; have hnc28 := NB196_195.out; have hnb29 := NB195_197.out; have hnc29 := NB197_195.out; have hcz30_0 : w27.cell? ⟨gb195, 0, none⟩ = some (.bool a0_0) := bc0 BK195.out; have hcz30_1 : w27.cell? ⟨gb195, 1, none⟩ = some (.slice A0_1 l0_1.length c0_1) := bc1 BK195.out; have hfz30_0 := blk_frozen BK195.out 0; have hfz30_1 := blk_frozen BK195.out 1; have hnb31 := NB196_197.out; have hnc31 := NB197_196.out; have hcz32_0 : w27.cell? ⟨gb196, 0, none⟩ = some (.bool a1_0) := bc0 BK196.out; have hcz32_1 : w27.cell? ⟨gb196, 1, none⟩ = some (.slice A1_1 l1_1.length c1_1) := bc1 BK196.out; have hfz32_0 := blk_frozen BK196.out 0; have hfz32_1 := blk_frozen BK196.out 1) | ((with_reducible refine gate_callee (f := 67) rfl ?_); refine goL (some 24) Try.func67 [.slice A0_1 l0_1.length c0_1, .slice A1_1 l1_1.length c1_1] ?_; (with_reducible refine (nat_Cmp.calls k _ _ l0_1 _ _ l1_1 t205 _ ?side1 ?side2 ?side3 ?side4 A21.out).mono ?_); (case side1 => exact (Kd.C_below HR0_1.out HB.out)); (case side2 => exact HC0_1.out); (case side3 => exact (Kd.C_below HR1_1.out HB.out)); (case side4 => exact HC1_1.out); rintro e w33 ⟨rfl, hb⟩; refine ⟨_, rfl, ?_⟩; replace BK195 := Aside0.mk (blk_below BK195.out hb); replace BK196 := Aside0.mk (blk_below BK196.out hb); replace BK197 := Aside0.mk (blk_below BK197.out hb); replace HB := Aside0.mk (below_step HB.out hb); (try clear hb); (try clear hb2); (try clear hk); (try clear hi); have hcz34_0 : w33.cell? ⟨gb196, 0, none⟩ = some (.bool a1_0) := bc0 BK196.out; have hcz34_1 : w33.cell? ⟨gb196, 1, none⟩ = some (.slice A1_1 l1_1.length c1_1) := bc1 BK196.out; have hfz34_0 := blk_frozen BK196.out 0; have hfz34_1 := blk_frozen BK196.out 1; have hcz35_0 : w33.cell? ⟨gb195, 0, none⟩ = some (.bool a0_0) := bc0 BK195.out; have hcz35_1 : w33.cell? ⟨gb195, 1, none⟩ = some (.slice A0_1 l0_1.length c0_1) := bc1 BK195.out; have hfz35_0 := blk_frozen BK195.out 0; have hfz35_1 := blk_frozen BK195.out 1) | ((with_reducible refine gate_callee (f := 68) rfl ?_); refine goL (some 33) Try.func68 [.slice A1_1 l1_1.length c1_1, .slice A0_1 l0_1.length c0_1] ?_; (with_reducible refine (nat_Sub.calls k _ _ l1_1 _ _ l0_1 t206 t207 _ ?side1 ?side2 ?side3 ?side4 A23.out).mono ?_); (case side1 => exact Kd.C_below HR1_1.out (by repeat first | exact HB.out | refine bxSet ?_ (by assumption) | apply below_alloc | apply pw_below_drewN)); (case side2 => exact HC1_1.out); (case side3 => exact Kd.C_below HR0_1.out (by repeat first | exact HB.out | refine bxSet ?_ (by assumption) | apply below_alloc | apply pw_below_drewN)); (case side4 => exact HC0_1.out); rintro e w36 ⟨v208, rfl, ho0, hb⟩; refine ⟨_, rfl, ?_⟩; have HO209 := Aside0.mk (Kd.R_lower ho0 (below_size (by repeat first | exact HB.out | refine bxSet ?_ (by assumption) | apply below_alloc | apply pw_below_drewN))); replace BK195 := Aside0.mk (blk_below (g := gb195) (o := .cells #[.bool a1_0, .slice A1_1 l1_1.length c1_1] 24 (0, 0)) (by refine blk_far ?_ NB195_196.out _; refine blk_far ?_ NB195_196.out _; refine blk_put (cs := #[.bool a1_0, .slice A0_1 l0_1.length c0_1]) ?_ 1 _ rfl; refine blk_put (cs := #[.bool a0_0, .slice A0_1 l0_1.length c0_1]) ?_ 0 _ rfl; exact BK195.out) hb); replace BK197 := Aside0.mk (blk_below (g := gb197) (o := .cells #[.bool false, .slice none 0 0] 24 (0, 0)) (by refine blk_far ?_ NB197_196.out _; refine blk_far ?_ NB197_196.out _; refine blk_far ?_ NB197_195.out _; refine blk_far ?_ NB197_195.out _; exact BK197.out) hb); replace HB := Aside0.mk (below_step (by repeat first | exact HB.out | refine bxSet ?_ (by assumption) | apply below_alloc | apply pw_below_drewN) hb); have hcz37_0 : w36.cell? ⟨gb195, 0, none⟩ = some (.bool a1_0) := bc0 BK195.out; have hcz37_1 : w36.cell? ⟨gb195, 1, none⟩ = some (.slice A1_1 l1_1.length c1_1) := bc1 BK195.out; have hfz37_0 := blk_frozen BK195.out 0; have hfz37_1 := blk_frozen BK195.out 1; obtain ⟨Ao38, co38, eo38⟩ := Kd.R_slice HO209.out; subst eo38) | ((with_reducible refine gate_callee (f := 63) rfl ?_); refine goL (some 39) Try.func63 [.bool a1_0, .slice Ao38 t206.length co38] ?_; (with_reducible refine (whole_made.calls a1_0 _ _ t206 t210 t211 _ ?side1 ?side2 A24.out).mono ?_); (case side1 => exact (Kd.R_reads' HO209.out).2.2); (case side2 => exact (Kd.R_reads' HO209.out).2.1); rintro e w39 ⟨v212, rfl, ho0, hb⟩; refine ⟨_, rfl, ?_⟩; have HO213 := Aside0.mk (Kd.R_lower (Kd.R_new' ho0 (Kd.R_lt HO209.out)) (below_size HB.out)); replace BK197 := Aside0.mk (blk_below BK197.out hb); replace HB := Aside0.mk (below_step HB.out hb); have hcz40_0 : w39.cell? ⟨gb197, 0, none⟩ = some (.bool false) := bc0 BK197.out; have hcz40_1 : w39.cell? ⟨gb197, 1, none⟩ = some (.slice none 0 0) := bc1 BK197.out; have hfz40_0 := blk_frozen BK197.out 0; have hfz40_1 := blk_frozen BK197.out 1; obtain ⟨Ao41, co41, eo41⟩ := Kd.R_slice HO213.out; subst eo41))
   refine bodyPost_ret (results_cell_row rfl _ _ gb197 24 #[.bool t210, .slice Ao41 t211.length co41] (0, 0) _ rfl (by refine blk_put (cs := #[.bool t210, .slice none 0 0]) ?_ 1 _ rfl; refine blk_put (cs := #[.bool false, .slice none 0 0]) ?_ 0 _ rfl; exact BK197.out) Try.underlying24 rfl (by kernel_rfl)) rfl ?_
   exact ⟨_, rfl, Kd.R_mono (Kd.R_far (p := ⟨gb197, 1, none⟩) (Kd.R_far (p := ⟨gb197, 0, none⟩) (Kd.R_types HO213.out BK197.out (by decide)) (fun _ hk => hk.2) (.bool t210)) (fun _ hk => hk.2) (.slice Ao41 t211.length co41)) (fun _ hk => trivial), by repeat first | exact HB.out | refine bxSet ?_ (by assumption) | apply below_alloc | apply pw_below_drewN⟩
  ·rw [if_neg c22] at H
   have c22b0 : decide (t205 < 0) = false := decide_eq_false c22
   clear c22
   obtain ⟨⟨t214, t215⟩, A420, H⟩ := Option.bind_eq_some_iff.mp H
   try dsimp only at H
   have A42 := Aside0.mk A420
   clear A420
   obtain ⟨⟨t218, t219⟩, A430, H⟩ := Option.bind_eq_some_iff.mp H
   try dsimp only at H
   have A43 := Aside0.mk A430
   clear A430
   simp only [Option.some.injEq, Prod.mk.injEq] at H
   obtain ⟨rfl, rfl⟩ := H
   go_enter Try.func36, Try.ntmps36
   go_wp2_with (first | ((with_reducible refine gate_dst (N := 2) rfl ?_); refine box_event ?hg (N := 2) ?hd (cs := #[.bool a0_0, .slice A0_1 l0_1.length c0_1]) (t := 24) ?hr ?_; (case hd => rfl); (case hg => rfl); (case hr => first | (go_simp; done) | (go_simp; rfl)); intro gb195 hg w44 hbox hb; have BK195 := Aside0.mk (hbox); have GW195 := Aside0.mk (bxLe HB.out hg); have GE195 := GW195; replace HB := Aside0.mk (below_step HB.out hb); clear hb hbox hg) | ((with_reducible refine gate_dst (N := 3) rfl ?_); refine box_event ?hg (N := 3) ?hd (cs := #[.bool a1_0, .slice A1_1 l1_1.length c1_1]) (t := 24) ?hr ?_; (case hd => rfl); (case hg => rfl); (case hr => first | (go_simp; done) | (go_simp; rfl)); intro gb196 hg w45 hbox hb; have BK196 := Aside0.mk (hbox); have GW196 := Aside0.mk (bxLe HB.out hg); have GE196 := GW196; replace HB := Aside0.mk (below_step HB.out hb); have NB195_196 := Aside0.mk (neL BK195.out hg); have NB196_195 := Aside0.mk (neR BK195.out hg); replace BK195 := Aside0.mk (blk_below BK195.out hb); clear hb hbox hg) | ((with_reducible refine gate_dst (N := 4) rfl ?_); refine box_event ?hg (N := 4) ?hd (cs := #[.bool false, .slice none 0 0]) (t := 24) ?hr ?_; (case hd => rfl); (case hg => rfl); (case hr => first | (go_simp; done) | (go_simp; rfl)); intro gb197 hg w46 hbox hb; have BK197 := Aside0.mk (hbox); have GW197 := Aside0.mk (bxLe HB.out hg); have GE197 := GW197; replace HB := Aside0.mk (below_step HB.out hb); have NB195_197 := Aside0.mk (neL BK195.out hg); have NB197_195 := Aside0.mk (neR BK195.out hg); replace BK195 := Aside0.mk (blk_below BK195.out hb); have NB196_197 := Aside0.mk (neL BK196.out hg); have NB197_196 := Aside0.mk (neR BK196.out hg); replace BK196 := Aside0.mk (blk_below BK196.out hb); clear hb hbox hg; have hnb47 := NB195_196.out; have hnc47 := NB196_195.out; have hnb48 := NB195_197.out; have hnc48 := NB197_195.out; have hcz49_0 : w46.cell? ⟨gb195, 0, none⟩ = some (.bool a0_0) := bc0 BK195.out; have hcz49_1 : w46.cell? ⟨gb195, 1, none⟩ = some (.slice A0_1 l0_1.length c0_1) := bc1 BK195.out; have hfz49_0 := blk_frozen BK195.out 0; have hfz49_1 := blk_frozen BK195.out 1; have hnb50 := NB196_197.out; have hnc50 := NB197_196.out; have hcz51_0 : w46.cell? ⟨gb196, 0, none⟩ = some (.bool a1_0) := bc0 BK196.out; have hcz51_1 : w46.cell? ⟨gb196, 1, none⟩ = some (.slice A1_1 l1_1.length c1_1) := bc1 BK196.out; have hfz51_0 := blk_frozen BK196.out 0; have hfz51_1 := blk_frozen BK196.out 1) | ((with_reducible refine gate_callee (f := 67) rfl ?_); refine goL (some 24) Try.func67 [.slice A0_1 l0_1.length c0_1, .slice A1_1 l1_1.length c1_1] ?_; (with_reducible refine (nat_Cmp.calls k _ _ l0_1 _ _ l1_1 t205 _ ?side1 ?side2 ?side3 ?side4 A21.out).mono ?_); (case side1 => exact (Kd.C_below HR0_1.out HB.out)); (case side2 => exact HC0_1.out); (case side3 => exact (Kd.C_below HR1_1.out HB.out)); (case side4 => exact HC1_1.out); rintro e w52 ⟨rfl, hb⟩; refine ⟨_, rfl, ?_⟩; replace BK195 := Aside0.mk (blk_below BK195.out hb); replace BK196 := Aside0.mk (blk_below BK196.out hb); replace BK197 := Aside0.mk (blk_below BK197.out hb); replace HB := Aside0.mk (below_step HB.out hb); (try clear hb); (try clear hb2); (try clear hk); (try clear hi); have hcz53_0 : w52.cell? ⟨gb195, 0, none⟩ = some (.bool a0_0) := bc0 BK195.out; have hcz53_1 : w52.cell? ⟨gb195, 1, none⟩ = some (.slice A0_1 l0_1.length c0_1) := bc1 BK195.out; have hfz53_0 := blk_frozen BK195.out 0; have hfz53_1 := blk_frozen BK195.out 1; have hcz54_0 : w52.cell? ⟨gb196, 0, none⟩ = some (.bool a1_0) := bc0 BK196.out; have hcz54_1 : w52.cell? ⟨gb196, 1, none⟩ = some (.slice A1_1 l1_1.length c1_1) := bc1 BK196.out; have hfz54_0 := blk_frozen BK196.out 0; have hfz54_1 := blk_frozen BK196.out 1) | ((with_reducible refine gate_callee (f := 68) rfl ?_); refine goL (some 33) Try.func68 [.slice A0_1 l0_1.length c0_1, .slice A1_1 l1_1.length c1_1] ?_; (with_reducible refine (nat_Sub.calls k _ _ l0_1 _ _ l1_1 t214 t215 _ ?side1 ?side2 ?side3 ?side4 A42.out).mono ?_); (case side1 => exact (Kd.C_below HR0_1.out HB.out)); (case side2 => exact HC0_1.out); (case side3 => exact (Kd.C_below HR1_1.out HB.out)); (case side4 => exact HC1_1.out); rintro e w55 ⟨v216, rfl, ho0, hb⟩; refine ⟨_, rfl, ?_⟩; have HO217 := Aside0.mk (Kd.R_lower ho0 (below_size HB.out)); replace BK195 := Aside0.mk (blk_below BK195.out hb); replace BK197 := Aside0.mk (blk_below BK197.out hb); replace HB := Aside0.mk (below_step HB.out hb); have hcz56_0 : w55.cell? ⟨gb195, 0, none⟩ = some (.bool a0_0) := bc0 BK195.out; have hcz56_1 : w55.cell? ⟨gb195, 1, none⟩ = some (.slice A0_1 l0_1.length c0_1) := bc1 BK195.out; have hfz56_0 := blk_frozen BK195.out 0; have hfz56_1 := blk_frozen BK195.out 1; obtain ⟨Ao57, co57, eo57⟩ := Kd.R_slice HO217.out; subst eo57) | ((with_reducible refine gate_callee (f := 63) rfl ?_); refine goL (some 39) Try.func63 [.bool a0_0, .slice Ao57 t214.length co57] ?_; (with_reducible refine (whole_made.calls a0_0 _ _ t214 t218 t219 _ ?side1 ?side2 A43.out).mono ?_); (case side1 => exact (Kd.R_reads' HO217.out).2.2); (case side2 => exact (Kd.R_reads' HO217.out).2.1); rintro e w58 ⟨v220, rfl, ho0, hb⟩; refine ⟨_, rfl, ?_⟩; have HO221 := Aside0.mk (Kd.R_lower (Kd.R_new' ho0 (Kd.R_lt HO217.out)) (below_size HB.out)); replace BK197 := Aside0.mk (blk_below BK197.out hb); replace HB := Aside0.mk (below_step HB.out hb); have hcz59_0 : w58.cell? ⟨gb197, 0, none⟩ = some (.bool false) := bc0 BK197.out; have hcz59_1 : w58.cell? ⟨gb197, 1, none⟩ = some (.slice none 0 0) := bc1 BK197.out; have hfz59_0 := blk_frozen BK197.out 0; have hfz59_1 := blk_frozen BK197.out 1; obtain ⟨Ao60, co60, eo60⟩ := Kd.R_slice HO221.out; subst eo60))
   refine bodyPost_ret (results_cell_row rfl _ _ gb197 24 #[.bool t218, .slice Ao60 t219.length co60] (0, 0) _ rfl (by refine blk_put (cs := #[.bool t218, .slice none 0 0]) ?_ 1 _ rfl; refine blk_put (cs := #[.bool false, .slice none 0 0]) ?_ 0 _ rfl; exact BK197.out) Try.underlying24 rfl (by kernel_rfl)) rfl ?_
   exact ⟨_, rfl, Kd.R_mono (Kd.R_far (p := ⟨gb197, 1, none⟩) (Kd.R_far (p := ⟨gb197, 0, none⟩) (Kd.R_types HO221.out BK197.out (by decide)) (fun _ hk => hk.2) (.bool t218)) (fun _ hk => hk.2) (.slice Ao60 t219.length co60)) (fun _ hk => trivial), by repeat first | exact HB.out | refine bxSet ?_ (by assumption) | apply below_alloc | apply pw_below_drewN⟩

/-! ### whole_Neg: function 69 -/
def whole_Neg.f (a0_0 : Bool) (l0_1 : List Int) : Option (Bool × List Int) := (whole_made.f (!a0_0) l0_1).bind fun bt224 => (some (bt224.1, bt224.2))
set_option maxHeartbeats 8000000 in
set_option maxRecDepth 100000 in
theorem whole_Neg.calls (a0_0 : Bool) (A0_1 : Option Addr) (c0_1 : Nat) (l0_1 : List Int) (r1 : Bool) (r2 : List Int) (w : World) (hr0_1 : Kd.C (Kd.int .u32) w A0_1 l0_1.length l0_1) (hc0_1 : l0_1.length ≤ c0_1) (h : whole_Neg.f a0_0 l0_1 = some (r1, r2)) :
  Calls Try.prog 69 #[.agg #[.bool a0_0, .slice A0_1 l0_1.length c0_1]] w fun e w' => ∃ v1_ : Value, e = .returned (.agg #[.bool r1, v1_]) ∧ Kd.R (Kd.int .u32) 81 w' w.heap.size (fun _ => True) v1_ r2 ∧ Below w.heap.size w w' := by
 have hu24 := Try.underlying24
 have HR0_1 := Aside0.mk hr0_1
 have HC0_1 := Aside0.mk hc0_1
 clear hr0_1 hc0_1
 have HB := Aside0.mk (Below.refl w.heap.size w)
 have H : ((whole_made.f (!a0_0) l0_1).bind fun bt224 => (some (bt224.1, bt224.2))) = some (r1, r2) := h
 clear h
 obtain ⟨⟨t224, t225⟩, A20, H⟩ := Option.bind_eq_some_iff.mp H
 try dsimp only at H
 have A2 := Aside0.mk A20
 clear A20
 simp only [Option.some.injEq, Prod.mk.injEq] at H
 obtain ⟨rfl, rfl⟩ := H
 go_enter Try.func69, Try.ntmps69
 go_wp2_with (first | ((with_reducible refine gate_dst (N := 1) rfl ?_); refine box_event ?hg (N := 1) ?hd (cs := #[.bool a0_0, .slice A0_1 l0_1.length c0_1]) (t := 24) ?hr ?_; (case hd => rfl); (case hg => rfl); (case hr => first | (go_simp; done) | (go_simp; rfl)); intro gb222 hg w3 hbox hb; have BK222 := Aside0.mk (hbox); have GW222 := Aside0.mk (bxLe HB.out hg); have GE222 := GW222; replace HB := Aside0.mk (below_step HB.out hb); clear hb hbox hg) | ((with_reducible refine gate_dst (N := 2) rfl ?_); refine box_event ?hg (N := 2) ?hd (cs := #[.bool false, .slice none 0 0]) (t := 24) ?hr ?_; (case hd => rfl); (case hg => rfl); (case hr => first | (go_simp; done) | (go_simp; rfl)); intro gb223 hg w4 hbox hb; have BK223 := Aside0.mk (hbox); have GW223 := Aside0.mk (bxLe HB.out hg); have GE223 := GW223; replace HB := Aside0.mk (below_step HB.out hb); have NB222_223 := Aside0.mk (neL BK222.out hg); have NB223_222 := Aside0.mk (neR BK222.out hg); replace BK222 := Aside0.mk (blk_below BK222.out hb); clear hb hbox hg; have hnb5 := NB222_223.out; have hnc5 := NB223_222.out; have hcz6_0 : w4.cell? ⟨gb222, 0, none⟩ = some (.bool a0_0) := bc0 BK222.out; have hcz6_1 : w4.cell? ⟨gb222, 1, none⟩ = some (.slice A0_1 l0_1.length c0_1) := bc1 BK222.out; have hfz6_0 := blk_frozen BK222.out 0; have hfz6_1 := blk_frozen BK222.out 1) | ((with_reducible refine gate_callee (f := 63) rfl ?_); refine goL (some 8) Try.func63 [.bool (!a0_0), .slice A0_1 l0_1.length c0_1] ?_; (with_reducible refine (whole_made.calls (!a0_0) _ _ l0_1 t224 t225 _ ?side1 ?side2 A2.out).mono ?_); (case side1 => exact (Kd.C_below HR0_1.out HB.out)); (case side2 => exact HC0_1.out); rintro e w7 ⟨v226, rfl, ho0, hb⟩; refine ⟨_, rfl, ?_⟩; have HO227 := Aside0.mk (Kd.R_lower ho0 (below_size HB.out)); replace BK223 := Aside0.mk (blk_below BK223.out hb); replace HB := Aside0.mk (below_step HB.out hb); have hcz8_0 : w7.cell? ⟨gb223, 0, none⟩ = some (.bool false) := bc0 BK223.out; have hcz8_1 : w7.cell? ⟨gb223, 1, none⟩ = some (.slice none 0 0) := bc1 BK223.out; have hfz8_0 := blk_frozen BK223.out 0; have hfz8_1 := blk_frozen BK223.out 1; obtain ⟨Ao9, co9, eo9⟩ := Kd.R_slice HO227.out; subst eo9))
 refine bodyPost_ret (results_cell_row rfl _ _ gb223 24 #[.bool t224, .slice Ao9 t225.length co9] (0, 0) _ rfl (by refine blk_put (cs := #[.bool t224, .slice none 0 0]) ?_ 1 _ rfl; refine blk_put (cs := #[.bool false, .slice none 0 0]) ?_ 0 _ rfl; exact BK223.out) Try.underlying24 rfl (by kernel_rfl)) rfl ?_
 exact ⟨_, rfl, Kd.R_mono (Kd.R_far (p := ⟨gb223, 1, none⟩) (Kd.R_far (p := ⟨gb223, 0, none⟩) (Kd.R_types HO227.out BK223.out (by decide)) (fun _ hk => hk.2) (.bool t224)) (fun _ hk => hk.2) (.slice Ao9 t225.length co9)) (fun _ hk => trivial), by repeat first | exact HB.out | refine bxSet ?_ (by assumption) | apply below_alloc | apply pw_below_drewN⟩

/-! ### whole_Sub: function 37 -/
def whole_Sub.f (k : Nat) (a0_0 : Bool) (l0_1 : List Int) (a1_0 : Bool) (l1_1 : List Int) : Option (Bool × List Int) := (whole_Neg.f a1_0 l1_1).bind fun bt231 => ((whole_Add.f k a0_0 l0_1 bt231.1 bt231.2).bind fun bt235 => (some (bt235.1, bt235.2)))
set_option maxHeartbeats 8000000 in
set_option maxRecDepth 100000 in
theorem whole_Sub.calls (k : Nat) (a0_0 : Bool) (A0_1 : Option Addr) (c0_1 : Nat) (l0_1 : List Int) (a1_0 : Bool) (A1_1 : Option Addr) (c1_1 : Nat) (l1_1 : List Int) (r1 : Bool) (r2 : List Int) (w : World) (hr0_1 : Kd.C (Kd.int .u32) w A0_1 l0_1.length l0_1) (hc0_1 : l0_1.length ≤ c0_1) (hr1_1 : Kd.C (Kd.int .u32) w A1_1 l1_1.length l1_1) (hc1_1 : l1_1.length ≤ c1_1) (h : whole_Sub.f k a0_0 l0_1 a1_0 l1_1 = some (r1, r2)) :
  Calls Try.prog 37 #[.agg #[.bool a0_0, .slice A0_1 l0_1.length c0_1], .agg #[.bool a1_0, .slice A1_1 l1_1.length c1_1]] w fun e w' => ∃ v1_ : Value, e = .returned (.agg #[.bool r1, v1_]) ∧ Kd.R (Kd.int .u32) 81 w' w.heap.size (fun _ => True) v1_ r2 ∧ Below w.heap.size w w' := by
 have hu24 := Try.underlying24
 have HR0_1 := Aside0.mk hr0_1
 have HC0_1 := Aside0.mk hc0_1
 clear hr0_1 hc0_1
 have HR1_1 := Aside0.mk hr1_1
 have HC1_1 := Aside0.mk hc1_1
 clear hr1_1 hc1_1
 have HB := Aside0.mk (Below.refl w.heap.size w)
 have H : ((whole_Neg.f a1_0 l1_1).bind fun bt231 => ((whole_Add.f k a0_0 l0_1 bt231.1 bt231.2).bind fun bt235 => (some (bt235.1, bt235.2)))) = some (r1, r2) := h
 clear h
 obtain ⟨⟨t231, t232⟩, A30, H⟩ := Option.bind_eq_some_iff.mp H
 try dsimp only at H
 have A3 := Aside0.mk A30
 clear A30
 obtain ⟨⟨t235, t236⟩, A40, H⟩ := Option.bind_eq_some_iff.mp H
 try dsimp only at H
 have A4 := Aside0.mk A40
 clear A40
 simp only [Option.some.injEq, Prod.mk.injEq] at H
 obtain ⟨rfl, rfl⟩ := H
 go_enter Try.func37, Try.ntmps37
 try go_wp2_with (first | ((with_reducible refine gate_dst (N := 2) rfl ?_); refine box_event ?hg (N := 2) ?hd (cs := #[.bool a0_0, .slice A0_1 l0_1.length c0_1]) (t := 24) ?hr ?_; (case hd => rfl); (case hg => rfl); (case hr => first | (go_simp; done) | (go_simp; rfl)); intro gb228 hg w5 hbox hb; have BK228 := Aside0.mk (hbox); have GW228 := Aside0.mk (bxLe HB.out hg); have GE228 := GW228; replace HB := Aside0.mk (below_step HB.out hb); clear hb hbox hg) | ((with_reducible refine gate_dst (N := 3) rfl ?_); refine box_event ?hg (N := 3) ?hd (cs := #[.bool a1_0, .slice A1_1 l1_1.length c1_1]) (t := 24) ?hr ?_; (case hd => rfl); (case hg => rfl); (case hr => first | (go_simp; done) | (go_simp; rfl)); intro gb229 hg w6 hbox hb; have BK229 := Aside0.mk (hbox); have GW229 := Aside0.mk (bxLe HB.out hg); have GE229 := GW229; replace HB := Aside0.mk (below_step HB.out hb); have NB228_229 := Aside0.mk (neL BK228.out hg); have NB229_228 := Aside0.mk (neR BK228.out hg); replace BK228 := Aside0.mk (blk_below BK228.out hb); clear hb hbox hg) | ((with_reducible refine gate_dst (N := 4) rfl ?_); refine box_event ?hg (N := 4) ?hd (cs := #[.bool false, .slice none 0 0]) (t := 24) ?hr ?_; (case hd => rfl); (case hg => rfl); (case hr => first | (go_simp; done) | (go_simp; rfl)); intro gb230 hg w7 hbox hb; have BK230 := Aside0.mk (hbox); have GW230 := Aside0.mk (bxLe HB.out hg); have GE230 := GW230; replace HB := Aside0.mk (below_step HB.out hb); have NB228_230 := Aside0.mk (neL BK228.out hg); have NB230_228 := Aside0.mk (neR BK228.out hg); replace BK228 := Aside0.mk (blk_below BK228.out hb); have NB229_230 := Aside0.mk (neL BK229.out hg); have NB230_229 := Aside0.mk (neR BK229.out hg); replace BK229 := Aside0.mk (blk_below BK229.out hb); clear hb hbox hg))
 replace BK228 := Aside0.mk (blk_drew BK228.out)
 replace BK229 := Aside0.mk (blk_drew BK229.out)
 replace BK230 := Aside0.mk (blk_drew BK230.out)
 replace HB := Aside0.mk (below_drew1 HB.out)
 refine start_ (n := 5) (S := fun w' => w'.cell? ⟨gb228, 0, none⟩ = some (.bool a0_0) ∧ w'.cell? ⟨gb228, 1, none⟩ = some (.slice A0_1 l0_1.length c0_1) ∧ w'.cell? ⟨gb229, 0, none⟩ = some (.bool a1_0) ∧ w'.cell? ⟨gb229, 1, none⟩ = some (.slice A1_1 l1_1.length c1_1)) (ds := []) #[false, false, false, false, false] (by kernel_rfl) rfl rfl ⟨bc0 BK228.out, bc1 BK228.out, bc0 BK229.out, bc1 BK229.out⟩ (fun hHeld => ?_)
 generalize w7.drew = w8 at BK228 BK229 BK230 HB hHeld ⊢
 refine take_ (i := 0) (N := some 5) (v := ?_) (a' := ?_) #[true, false, false, false, false] rfl rfl (by kernel_rfl) (fun _ _ _ h => h) (Or.inl ⟨by rfl, ?_⟩) hHeld ?_ ?_
 rotate_left
 ·rintro w' ⟨s0, s1, s2, s3⟩
  go_simp
  with_reducible rfl
 rotate_left
 ·simp only [Act.put, List.setIfInBounds_toArray, List.set_cons_zero, List.set_cons_succ, i64_w, i32_w]
  rfl
 refine take_ (i := 1) (N := some 6) (v := ?_) (a' := ?_) #[true, true, false, false, false] rfl rfl (by kernel_rfl) (fun _ _ _ h => h) (Or.inl ⟨by rfl, ?_⟩) hHeld ?_ ?_
 rotate_left
 ·rintro w' ⟨s0, s1, s2, s3⟩
  go_simp
  with_reducible rfl
 rotate_left
 ·simp only [Act.put, List.setIfInBounds_toArray, List.set_cons_zero, List.set_cons_succ, i64_w, i32_w]
  rfl
 refine one_ (i := 2) (N := some 7) #[true, true, true, false, false] rfl rfl (by kernel_rfl) (by decide) (fun K hK => ?_)
 refine goR Try.func69 [.agg #[.bool a1_0, .slice A1_1 l1_1.length c1_1]] ?_
 with_reducible refine (whole_Neg.calls a1_0 _ _ l1_1 t231 t232 _ ?side1 ?side2 A3.out).mono ?_
 (case side1 => exact (Kd.C_below HR1_1.out HB.out))
 (case side2 => exact HC1_1.out)
 rintro e w9 ⟨v233, rfl, ho0, hb⟩
 refine ⟨_, rfl, ?_⟩
 have HO234 := Aside0.mk (Kd.R_lower ho0 (below_size HB.out))
 replace BK228 := Aside0.mk (blk_below BK228.out hb)
 replace BK229 := Aside0.mk (blk_below BK229.out hb)
 replace BK230 := Aside0.mk (blk_below BK230.out hb)
 replace HB := Aside0.mk (below_step HB.out hb)
 (try clear hb)
 (try clear hb2)
 (try clear hk)
 (try clear hi)
 (try clear ho0)
 obtain ⟨Ao10, co10, eo10⟩ := Kd.R_slice HO234.out
 subst eo10
 refine hK.out _ _ ⟨bc0 BK228.out, bc1 BK228.out, bc0 BK229.out, bc1 BK229.out⟩ (fun hHeld => ?_)
 clear hK K
 refine norm_ (a' := ?_) ?_ ?_
 rotate_left
 ·show Act.put _ (some 7) _ = _
  simp only [Act.put, List.setIfInBounds_toArray, List.set_cons_zero, List.set_cons_succ, i64_w, i32_w]
  rfl
 refine one_ (i := 3) (N := some 8) #[true, true, true, true, false] rfl rfl (by kernel_rfl) (by decide) (fun K hK => ?_)
 refine goR Try.func36 [.agg #[.bool a0_0, .slice A0_1 l0_1.length c0_1], .agg #[.bool t231, .slice Ao10 t232.length co10]] ?_
 with_reducible refine (whole_Add.calls k a0_0 _ _ l0_1 t231 _ _ t232 t235 t236 _ ?side1 ?side2 ?side3 ?side4 A4.out).mono ?_
 (case side1 => exact (Kd.C_below HR0_1.out HB.out))
 (case side2 => exact HC0_1.out)
 (case side3 => exact (Kd.R_reads' HO234.out).2.2)
 (case side4 => exact (Kd.R_reads' HO234.out).2.1)
 rintro e w11 ⟨v237, rfl, ho0, hb⟩
 refine ⟨_, rfl, ?_⟩
 have HO238 := Aside0.mk (Kd.R_lower (Kd.R_new' ho0 (Kd.R_lt HO234.out)) (below_size HB.out))
 replace BK228 := Aside0.mk (blk_below BK228.out hb)
 replace BK229 := Aside0.mk (blk_below BK229.out hb)
 replace BK230 := Aside0.mk (blk_below BK230.out hb)
 replace HB := Aside0.mk (below_step HB.out hb)
 (try clear hb)
 (try clear hb2)
 (try clear hk)
 (try clear hi)
 (try clear ho0)
 obtain ⟨Ao13, co13, eo13⟩ := Kd.R_slice HO238.out
 subst eo13
 refine hK.out _ _ ⟨bc0 BK228.out, bc1 BK228.out, bc0 BK229.out, bc1 BK229.out⟩ (fun hHeld => ?_)
 clear hK K
 refine norm_ (a' := ?_) ?_ ?_
 rotate_left
 ·show Act.put _ (some 8) _ = _
  simp only [Act.put, List.setIfInBounds_toArray, List.set_cons_zero, List.set_cons_succ, i64_w, i32_w]
  rfl
 refine one_ (i := 4) (N := none) #[true, true, true, true, true] rfl rfl (by kernel_rfl) (by decide) (fun K hK => ?_)
 have hs12 : w11.cell? ⟨gb230, 0, none⟩ = some (.bool false) := bc0 BK230.out
 have hfs12 := blk_frozen BK230.out 0
 have hns12_0 := NB228_230.out
 have hns12_1 := NB229_230.out
 have hms12_0 := NB230_228.out
 have hms12_1 := NB230_229.out
 have hs14 : w11.cell? ⟨gb230, 1, none⟩ = some (.slice none 0 0) := bc1 BK230.out
 have hfs14 := blk_frozen BK230.out 1
 have hns14_0 := NB228_230.out
 have hns14_1 := NB229_230.out
 have hms14_0 := NB230_228.out
 have hms14_1 := NB230_229.out
 refine skip_ (w1 := ?_) (by rfl) rfl ?_ ?_
 rotate_left
 ·go_simp
  rfl
 refine hK.out _ _ ⟨((cell_far (p := ⟨gb230, _, none⟩) NB228_230.out _).trans (((cell_far (p := ⟨gb230, _, none⟩) NB228_230.out _).trans (hHeld.1)))), ((cell_far (p := ⟨gb230, _, none⟩) NB228_230.out _).trans (((cell_far (p := ⟨gb230, _, none⟩) NB228_230.out _).trans (hHeld.2.1)))), ((cell_far (p := ⟨gb230, _, none⟩) NB229_230.out _).trans (((cell_far (p := ⟨gb230, _, none⟩) NB229_230.out _).trans (hHeld.2.2.1)))), ((cell_far (p := ⟨gb230, _, none⟩) NB229_230.out _).trans (((cell_far (p := ⟨gb230, _, none⟩) NB229_230.out _).trans (hHeld.2.2.2))))⟩ (fun hHeld => ?_)
 clear hK K
 refine done_ (by kernel_rfl) ?_
 try go_wp2
 refine bodyPost_ret (results_cell_row rfl _ _ gb230 24 #[.bool t235, .slice Ao13 t236.length co13] (0, 0) _ rfl (by refine blk_put (cs := #[.bool t235, .slice none 0 0]) ?_ 1 _ rfl; refine blk_put (cs := #[.bool false, .slice none 0 0]) ?_ 0 _ rfl; exact BK230.out) Try.underlying24 rfl (by kernel_rfl)) rfl ?_
 exact ⟨_, rfl, Kd.R_mono (Kd.R_far (p := ⟨gb230, 1, none⟩) (Kd.R_far (p := ⟨gb230, 0, none⟩) (Kd.R_types HO238.out BK230.out (by decide)) (fun _ hk => hk.2) (.bool t235)) (fun _ hk => hk.2) (.slice Ao13 t236.length co13)) (fun _ hk => trivial), by repeat first | exact HB.out | refine bxSet ?_ (by assumption) | apply below_alloc | apply pw_below_drewN⟩

/-! ### whole_Cmp: function 38 -/
def whole_Cmp.f (k : Nat) (a0_0 : Bool) (l0_1 : List Int) (a1_0 : Bool) (l1_1 : List Int) : Option (Int) := (whole_Sub.f k a0_0 l0_1 a1_0 l1_1).bind fun bt241 => ((whole_Sign.f bt241.1 bt241.2).bind fun t245 => (some t245))
set_option maxHeartbeats 8000000 in
set_option maxRecDepth 100000 in
theorem whole_Cmp.calls (k : Nat) (a0_0 : Bool) (A0_1 : Option Addr) (c0_1 : Nat) (l0_1 : List Int) (a1_0 : Bool) (A1_1 : Option Addr) (c1_1 : Nat) (l1_1 : List Int) (r : Int) (w : World) (hr0_1 : Kd.C (Kd.int .u32) w A0_1 l0_1.length l0_1) (hc0_1 : l0_1.length ≤ c0_1) (hr1_1 : Kd.C (Kd.int .u32) w A1_1 l1_1.length l1_1) (hc1_1 : l1_1.length ≤ c1_1) (h : whole_Cmp.f k a0_0 l0_1 a1_0 l1_1 = some r) :
  Calls Try.prog 38 #[.agg #[.bool a0_0, .slice A0_1 l0_1.length c0_1], .agg #[.bool a1_0, .slice A1_1 l1_1.length c1_1]] w fun e w' => e = .returned (.int .i64 r) ∧ Below w.heap.size w w' := by
 have hu24 := Try.underlying24
 have HR0_1 := Aside0.mk hr0_1
 have HC0_1 := Aside0.mk hc0_1
 clear hr0_1 hc0_1
 have HR1_1 := Aside0.mk hr1_1
 have HC1_1 := Aside0.mk hc1_1
 clear hr1_1 hc1_1
 have HB := Aside0.mk (Below.refl w.heap.size w)
 have H : ((whole_Sub.f k a0_0 l0_1 a1_0 l1_1).bind fun bt241 => ((whole_Sign.f bt241.1 bt241.2).bind fun t245 => (some t245))) = some r := h
 clear h
 obtain ⟨⟨t241, t242⟩, A30, H⟩ := Option.bind_eq_some_iff.mp H
 try dsimp only at H
 have A3 := Aside0.mk A30
 clear A30
 obtain ⟨t245, A40, H⟩ := Option.bind_eq_some_iff.mp H
 try dsimp only at H
 have A4 := Aside0.mk A40
 clear A40
 obtain rfl := Option.some.inj H
 go_enter Try.func38, Try.ntmps38
 go_wp2_with (first | ((with_reducible refine gate_dst (N := 2) rfl ?_); refine box_event ?hg (N := 2) ?hd (cs := #[.bool a0_0, .slice A0_1 l0_1.length c0_1]) (t := 24) ?hr ?_; (case hd => rfl); (case hg => rfl); (case hr => first | (go_simp; done) | (go_simp; rfl)); intro gb239 hg w5 hbox hb; have BK239 := Aside0.mk (hbox); have GW239 := Aside0.mk (bxLe HB.out hg); have GE239 := GW239; replace HB := Aside0.mk (below_step HB.out hb); clear hb hbox hg) | ((with_reducible refine gate_dst (N := 3) rfl ?_); refine box_event ?hg (N := 3) ?hd (cs := #[.bool a1_0, .slice A1_1 l1_1.length c1_1]) (t := 24) ?hr ?_; (case hd => rfl); (case hg => rfl); (case hr => first | (go_simp; done) | (go_simp; rfl)); intro gb240 hg w6 hbox hb; have BK240 := Aside0.mk (hbox); have GW240 := Aside0.mk (bxLe HB.out hg); have GE240 := GW240; replace HB := Aside0.mk (below_step HB.out hb); have NB239_240 := Aside0.mk (neL BK239.out hg); have NB240_239 := Aside0.mk (neR BK239.out hg); replace BK239 := Aside0.mk (blk_below BK239.out hb); clear hb hbox hg; have hnb7 := NB239_240.out; have hnc7 := NB240_239.out; have hcz8_0 : w6.cell? ⟨gb239, 0, none⟩ = some (.bool a0_0) := bc0 BK239.out; have hcz8_1 : w6.cell? ⟨gb239, 1, none⟩ = some (.slice A0_1 l0_1.length c0_1) := bc1 BK239.out; have hfz8_0 := blk_frozen BK239.out 0; have hfz8_1 := blk_frozen BK239.out 1; have hcz9_0 : w6.cell? ⟨gb240, 0, none⟩ = some (.bool a1_0) := bc0 BK240.out; have hcz9_1 : w6.cell? ⟨gb240, 1, none⟩ = some (.slice A1_1 l1_1.length c1_1) := bc1 BK240.out; have hfz9_0 := blk_frozen BK240.out 0; have hfz9_1 := blk_frozen BK240.out 1) | ((with_reducible refine gate_callee (f := 37) rfl ?_); refine goL (some 7) Try.func37 [.agg #[.bool a0_0, .slice A0_1 l0_1.length c0_1], .agg #[.bool a1_0, .slice A1_1 l1_1.length c1_1]] ?_; (with_reducible refine (whole_Sub.calls k a0_0 _ _ l0_1 a1_0 _ _ l1_1 t241 t242 _ ?side1 ?side2 ?side3 ?side4 A3.out).mono ?_); (case side1 => exact (Kd.C_below HR0_1.out HB.out)); (case side2 => exact HC0_1.out); (case side3 => exact (Kd.C_below HR1_1.out HB.out)); (case side4 => exact HC1_1.out); rintro e w10 ⟨v243, rfl, ho0, hb⟩; refine ⟨_, rfl, ?_⟩; have HO244 := Aside0.mk (Kd.R_lower ho0 (below_size HB.out)); replace HB := Aside0.mk (below_step HB.out hb); obtain ⟨Ao11, co11, eo11⟩ := Kd.R_slice HO244.out; subst eo11) | ((with_reducible refine gate_callee (f := 19) rfl ?_); refine goL (some 8) Try.func19 [.agg #[.bool t241, .slice Ao11 t242.length co11]] ?_; (with_reducible refine (whole_Sign.calls t241 _ _ t242 t245 _ ?side1 ?side2 A4.out).mono ?_); (case side1 => exact (Kd.R_reads' HO244.out).2.2); (case side2 => exact (Kd.R_reads' HO244.out).2.1); rintro e w12 ⟨rfl, hb⟩; refine ⟨_, rfl, ?_⟩; replace HB := Aside0.mk (below_step HB.out hb); (try clear hb); (try clear hb2); (try clear hk); (try clear hi)))
 go_ret
 exact ⟨by first | rfl | (simp [errW_none, errW_some] <;> rfl) | (refine congrArg (fun z_ => Ending.returned (Value.bool z_)) (decide_eq_decide.mpr ?_); unfold wrap64; omega) | (simp [*, errW_none, errW_some] <;> rfl), HB.out⟩

/-! ### nat_small: function 89 -/
def nat_small.l0 : Nat → List Int → Int → List Int → Int → Int → Option (List Int × Int)
 | 0, _, _, _, _, _ => none
 | k + 1, x0, x1, x6, x7, x8 => if x8 ≥ 0 then (if 0 ≤ x8 then (if x8 < (x0.length : Int) then (if x1 = 0 then (none) else (if x8 < (x6.length : Int) then (nat_small.l0 k x0 x1 (x6.set (x8 : Int).toNat ((IntKind.u64.wrap (Int.tdiv (Go.bits .or .u64 (IntKind.u64.wrap (x7 * 4294967296)) (IntKind.u64.wrap (rd x0 x8))) x1)) % 4294967296)) (Int.tmod (Go.bits .or .u64 (IntKind.u64.wrap (x7 * 4294967296)) (IntKind.u64.wrap (rd x0 x8))) x1) (wrap64 (x8 - 1))) else (none))) else (none)) else (none)) else ((nat_Norm.f x6).bind fun t251 => (some (t251, x7)))
def nat_small.f (k : Nat) (l0 : List Int) (a1 : Int) : Option (List Int × Int) := if 0 ≤ (l0.length : Int) then (if ((l0.length : Int) : Int).toNat ≤ 70368744177664 then (nat_small.l0 k l0 a1 (List.replicate ((l0.length : Int) : Int).toNat 0) 0 (wrap64 ((l0.length : Int) - 1))) else (none)) else (none)
set_option maxHeartbeats 8000000 in
set_option maxRecDepth 100000 in
theorem nat_small.calls (k : Nat) (A0 : Option Addr) (c0 : Nat) (l0 : List Int) (a1 : Int) (r1 : List Int) (r2 : Int) (w : World) (hr0 : Kd.C (Kd.int .u32) w A0 l0.length l0) (hc0 : l0.length ≤ c0) (h : nat_small.f k l0 a1 = some (r1, r2)) :
  Calls Try.prog 89 #[.slice A0 l0.length c0, .int .u64 a1] w fun e w' => ∃ v0_ : Value, e = .returned (.tuple #[v0_, .int .u64 r2]) ∧ Kd.R (Kd.int .u32) 81 w' w.heap.size (fun _ => True) v0_ r1 ∧ Below w.heap.size w w' := by
 have HR0 := Aside0.mk hr0
 have HC0 := Aside0.mk hc0
 clear hr0 hc0
 have HB := Aside0.mk (Below.refl w.heap.size w)
 have H : (if 0 ≤ (l0.length : Int) then (if ((l0.length : Int) : Int).toNat ≤ 70368744177664 then (nat_small.l0 k l0 a1 (List.replicate ((l0.length : Int) : Int).toNat 0) 0 (wrap64 ((l0.length : Int) - 1))) else (none)) else (none)) = some (r1, r2) := h
 clear h
 by_cases c3 : 0 ≤ (l0.length : Int)
 ·rw [if_pos c3] at H
  have c3b0 := eq_true c3
  have c3b1 : decide (0 ≤ (l0.length : Int)) = true := decide_eq_true c3
  clear c3
  by_cases c4 : ((l0.length : Int) : Int).toNat ≤ 70368744177664
  ·rw [if_pos c4] at H
   have c4b0 := eq_true c4
   have c4b1 : decide (((l0.length : Int) : Int).toNat ≤ 70368744177664) = true := decide_eq_true c4
   clear c4
   obtain ⟨y246, hy246⟩ : ∃ y_ : List Int, y_ = (List.replicate ((l0.length : Int) : Int).toNat 0) := ⟨_, rfl⟩
   replace H : (nat_small.l0 k l0 a1 y246 0 (wrap64 ((l0.length : Int) - 1))) = some (r1, r2) := by first | (rw [hy246]; with_reducible exact H) | (have H2_ := (Option.bind_some _ _).symm.trans H; rw [hy246]; with_reducible exact H2_) | (have H2_ := (Option.bind_some _ _).symm.trans H; with_reducible exact H2_) | with_reducible exact H | (rw [hy246]; exact H) | exact H
   have Ny246 := Aside0.mk hy246
   clear hy246
   have H' := Aside0.mk H
   clear H
   go_enter Try.func89, Try.ntmps89
   go_wp2_with (first | ((with_reducible refine gate_dst (N := 11) rfl ?_); refine Kd.R_make (Kd.int .u32) _ 81 rfl (N := 11) rfl 22 _ _ rfl (l0.length : Int) rfl rfl Try.underlying22 (.int .u32 0) 4 info81 rfl (by decide) (by omega) 0 (ok := fun _ => True) (okp := fun _ => True) rfl (fun _ hk => hk) trivial (of_decide_eq_true (by first | (with_reducible assumption) | assumption)) (Nat.le_trans (Nat.mul_le_mul_right _ (of_decide_eq_true (by first | (with_reducible assumption) | assumption) : (l0.length : Int).toNat ≤ 70368744177664)) (by omega)) (Below.refl _ _) (Nat.le_refl _) ?_; intro v247 w5 ho6 hb hg_ hnew_; clear hg_ hnew_; (first | rw [← Ny246.out] at ho6 | (simp only [Int.reduceToNat] at ho6; rw [← Ny246.out] at ho6)); have HO248 := Aside0.mk (Kd.R_lower ho6 (below_size HB.out)); replace HB := Aside0.mk (below_step HB.out hb); clear hb ho6))
   go_loopg [7, 8] k (fun kq v7 v8 w' => ∃ (x6_1 : List Int) (x7_1 : Int) (x8_1 : Int), v7 = .int .u64 x7_1 ∧ v8 = .int .i64 x8_1 ∧ Aside0 (nat_small.l0 kq l0 a1 x6_1 x7_1 x8_1 = some (r1, r2)) ∧ Aside0 (kq ≤ k) ∧ Aside0 (Kd.R (Kd.int .u32) 81 w' w.heap.size (fun _ => True) v247 x6_1) ∧ Aside0 (Below w.heap.size w w'))
   case atStart => exact ⟨(y246), (0), (wrap64 ((l0.length : Int) - 1)), (by first | rfl | (simp; done)), (by first | rfl | (simp; done)), H', ⟨Nat.le_refl _⟩, ⟨HO248.out⟩, ⟨HB.out⟩⟩
   case round =>
    clear H'
    try clear p2
    try clear c3
    try clear c3b0
    try clear c3b1
    try clear c4
    try clear c4b0
    try clear c4b1
    try clear p6
    obtain ⟨x6_1, x7_1, x8_1, rfl, rfl, HA, HK1, HO_6, HB⟩ := hrel
    cases gk with
    | zero => exact absurd HA.out (by simp [nat_small.l0])
    | succ k1 =>
     have H := HA.out
     clear HA
     simp only [nat_small.l0] at H
     by_cases c7 : x8_1 ≥ 0
     ·rw [if_pos c7] at H
      have c7b0 : decide (0 ≤ x8_1) = true := decide_eq_true c7
      clear c7
      by_cases c8 : 0 ≤ x8_1
      ·rw [if_pos c8] at H
       have c8b0 : decide (0 ≤ x8_1) = true := decide_eq_true c8
       clear c8
       by_cases c9 : x8_1 < (l0.length : Int)
       ·rw [if_pos c9] at H
        have c9b0 : decide (x8_1 < (l0.length : Int)) = true := decide_eq_true c9
        clear c9
        by_cases c10 : a1 = 0
        ·rw [if_pos c10] at H
         exact absurd H (by simp)
        ·rw [if_neg c10] at H
         have c10b0 : (a1 == 0) = false := beq_eq_false_iff_ne.mpr c10
         have c10b1 : (a1 != 0) = true := bne_iff_ne.mpr c10
         by_cases c11 : x8_1 < (x6_1.length : Int)
         ·rw [if_pos c11] at H
          have c11b0 : decide (x8_1 < (x6_1.length : Int)) = true := decide_eq_true c11
          clear c11
          obtain ⟨y250, hy250⟩ : ∃ y_ : List Int, y_ = (x6_1.set (x8_1 : Int).toNat ((IntKind.u64.wrap (Int.tdiv (Go.bits .or .u64 (IntKind.u64.wrap (x7_1 * 4294967296)) (IntKind.u64.wrap (rd l0 x8_1))) a1)) % 4294967296)) := ⟨_, rfl⟩
          replace H : (nat_small.l0 k1 l0 a1 y250 (Int.tmod (Go.bits .or .u64 (IntKind.u64.wrap (x7_1 * 4294967296)) (IntKind.u64.wrap (rd l0 x8_1))) a1) (wrap64 (x8_1 - 1))) = some (r1, r2) := by first | (rw [hy250]; with_reducible exact H) | (have H2_ := (Option.bind_some _ _).symm.trans H; rw [hy250]; with_reducible exact H2_) | (have H2_ := (Option.bind_some _ _).symm.trans H; with_reducible exact H2_) | with_reducible exact H | (rw [hy250]; exact H) | exact H
          have Ny250 := Aside0.mk hy250
          clear hy250
          have H' := Aside0.mk H
          clear H
          have p249 : 0 ≤ (x8_1 : Int) := of_decide_eq_true (by first | (with_reducible assumption) | assumption)
          have q249 : x8_1 < (l0.length : Int) := of_decide_eq_true (by first | (with_reducible assumption) | assumption)
          obtain ⟨ad249, e249, hx249_0⟩ := Kd.at_int HR0.out x8_1 p249 q249
          cases e249
          replace hx249_0 := (HB.out.cell (World.block_lt_of_cell? w _ hx249_0)).trans hx249_0
          replace p249 := eq_true p249
          replace q249 := eq_true q249
          have p12 : 0 ≤ (x8_1 : Int) := of_decide_eq_true (by first | (with_reducible assumption) | assumption)
          have q12 : (x8_1 : Int) < ((x6_1.length : Int) : Int) := of_decide_eq_true (by first | (with_reducible assumption) | assumption)
          obtain ⟨go12, co12, eo12, gb12, gl12, cl12, HG12⟩ := Kd.R_form HO_6.out (by omega)
          (first | cases eo12 | (injection eo12 with ea_ en_ ec_; (first | subst ea_ | (injection ea_ with ea_; subst ea_)); subst ec_; clear en_))
          have GB12 := Aside0.mk gb12
          have GG12 := Aside0.mk HG12
          clear gb12 gl12 HG12
          obtain ⟨hx12_0, hf12_0⟩ := Kd.R_celln 0 HO_6.out (x8_1 : Int) p12 q12
          replace p12 := eq_true p12
          replace q12 := eq_true q12
          have HP13 := Kd.R_putg HO_6.out (x8_1 : Int) ((IntKind.u64.wrap (Int.tdiv (Go.bits .or .u64 (IntKind.u64.wrap (x7_1 * 4294967296)) (IntKind.u64.wrap (rd l0 x8_1))) a1)) % 4294967296)
          go_wp2_with (first | ((with_reducible refine gate_store (t := 81) (p := 33) rfl ?_); refine store_event (t := 81) (p := 33) (v := ?vo_w14) (w1 := (wr.setCell ⟨go12, (x8_1 : Int).toNat, none⟩ (.int .u32 ((IntKind.u64.wrap (Int.tdiv (Go.bits .or .u64 (IntKind.u64.wrap (x7_1 * 4294967296)) (IntKind.u64.wrap (rd l0 x8_1))) a1)) % 4294967296)))) ?hg ?ho ?hn ?hr ?_; (case ho => rfl); (case hg => rfl); (case hn => rfl); (case hr => first | (go_simp; done) | (go_simp; rfl)); intro w14 hw; have hg : wr.grownBy w14 (some go12) := (by rw [hw]; exact HP13.2); have hp_ : Kd.R (Kd.int .u32) 81 w14 w.heap.size (fun _ => True) (.slice (some ⟨go12, 0, none⟩) x6_1.length co12) y250 := (by rw [hw, Ny250.out]; exact HP13.1); clear HP13; replace HO_6 := Aside0.mk (hp_); replace HB := Aside0.mk ((by rw [hw]; exact below_set (HB.out) GB12.out : Below w.heap.size w w14)); clear hg hw hp_))
          go_roundg k1
          case measure => have := HK1.out; omega
          case rel => exact ⟨(y250), (Int.tmod (Go.bits .or .u64 (IntKind.u64.wrap (x7_1 * 4294967296)) (IntKind.u64.wrap (rd l0 x8_1))) a1), (wrap64 (x8_1 - 1)), (by first | rfl | (simp; done)), (by first | rfl | (simp; done)), H', ⟨by have := HK1.out; omega⟩, ⟨HO_6.out⟩, ⟨HB.out⟩⟩
         ·rw [if_neg c11] at H
          exact absurd H (by simp)
       ·rw [if_neg c9] at H
        exact absurd H (by simp)
      ·rw [if_neg c8] at H
       exact absurd H (by simp)
     ·rw [if_neg c7] at H
      have c7b0 : decide (0 ≤ x8_1) = false := decide_eq_false c7
      clear c7
      obtain ⟨t251, A150, H⟩ := Option.bind_eq_some_iff.mp H
      try dsimp only at H
      have A15 := Aside0.mk A150
      clear A150
      simp only [Option.some.injEq, Prod.mk.injEq] at H
      obtain ⟨rfl, rfl⟩ := H
      obtain ⟨Ao16, co16, eo16⟩ := Kd.R_slice HO_6.out
      subst eo16
      go_wp2_with (first | ((with_reducible refine gate_callee (f := 83) rfl ?_); refine goL (some 38) Try.func83 [.slice Ao16 x6_1.length co16] ?_; (with_reducible refine (nat_Norm.calls _ _ x6_1 t251 _ ?side1 ?side2 A15.out).mono ?_); (case side1 => exact (Kd.R_reads' HO_6.out).2.2); (case side2 => exact (Kd.R_reads' HO_6.out).2.1); rintro e w17 ⟨v252, rfl, ho0, hb⟩; refine ⟨_, rfl, ?_⟩; have HO253 := Aside0.mk (Kd.R_lower (Kd.R_new' ho0 (Kd.R_lt HO_6.out)) (below_size HB.out)); replace HB := Aside0.mk (below_step HB.out hb)))
      go_ret2
      exact ⟨_, rfl, Kd.R_mono HO253.out (fun _ hk => trivial), HB.out⟩
  ·rw [if_neg c4] at H
   exact absurd H (by simp)
 ·rw [if_neg c3] at H
  exact absurd H (by simp)

/-! ### nat_left: function 91 -/
end Go.Proofs.Ytdicjemjmlbmlaa.PA
