/- Joined by wip/tools/shake.py for the claim of SatBudget: Shelf, HSo, HSp, HSq, HSr, HSt, HSu, SatZ, HSv, HSw, HSx, HSy, HSz. -/
import Derived.Shelf.Small.Bits
import Derived.Shelf.Strconv.Itoa0
import Derived.Shelf.Sort.Plain
import Derived.Shelf.Slices.Turned
import Derived.Ground.Names2Prog
import Derived.Shelf.Slices.Clone
import Derived.Shelf.Slices.CompactI
import Derived.Shelf.Slices.SearchI
import Derived.Shelf.Slices.Cells
import Derived.Shelf.Slices.In.SortNone
import Derived.Ground.SlgnProg
import Derived.Shelf.SlicesE.Clone
import Derived.Test.YtckimhhncpnkpaaProg
import Derived.Test.YtckimhhncpnkpaaJSatBudget4
import Derived.Lib.SliceRun
import Derived.Test.YtckimhhncpnkpaaJSatBudget3
import Derived.Test.YtckimhhncpnkpaaJSatBudget5
import Derived.Deep.SlicePairs
/-
  DERIVED: THE SHELF's CONTRACTS AT THIS DUMP, IN PLAIN WORDS (tools/lay-plain.mjs out of 'TryShelf.lean', which tools/lay-shelf.mjs wrote): THE SAME DECLARATIONS UNDER THE SAME NAMES: 'import', 'namespace', 'open', 'def', 'theorem' AND NOTHING ELSE: no command of the shelf's: FOR A HAND-IN. Each laying: the table of numbers ('.._ren') and one theorem, a field a fact of the dump's own or the kernel's comparison; each contract: ONE APPLICATION.
-/
namespace Go.Proofs
open Go.Shelf
def Try.lays189_ren : Go.Shelf.Ren := ⟨fun | 189 => 33 | 125 => 48 | 257 => 47 | 128 => 60 | 129 => 61 | 294 => 51 | 295 => 52 | 296 => 53 | 297 => 54 | 298 => 55 | 299 => 56 | 216 => 57 | 300 => 58 | 301 => 59 | 328 => 63 | 329 => 64 | 330 => 65 | 331 => 66 | 332 => 67 | 215 => 68 | 343 => 69 | n => n, fun | 28 => 23 | 3 => 3 | 46 => 69 | 0 => 0 | 51 => 83 | 53 => 85 | 4 => 4 | 183 => 75 | 182 => 74 | 131 => 80 | 5 => 5 | 9 => 9 | 218 => 87 | 222 => 91 | 228 => 93 | 229 => 94 | n => n, fun | n => n⟩
theorem Try.lays189 : Go.Proofs.Lays.n189 Try.prog Try.lays189_ren := {
  mixed := by kernel_rfl
  f125 := Try.func48.trans (congrArg some (by kernel_rfl))
  f128 := Try.func60.trans (congrArg some (by kernel_rfl))
  f129 := Try.func61.trans (congrArg some (by kernel_rfl))
  f189 := Try.func33.trans (congrArg some (by kernel_rfl))
  f215 := Try.func68.trans (congrArg some (by kernel_rfl))
  f216 := Try.func57.trans (congrArg some (by kernel_rfl))
  f257 := Try.func47.trans (congrArg some (by kernel_rfl))
  f294 := Try.func51.trans (congrArg some (by kernel_rfl))
  f295 := Try.func52.trans (congrArg some (by kernel_rfl))
  f296 := Try.func53.trans (congrArg some (by kernel_rfl))
  f297 := Try.func54.trans (congrArg some (by kernel_rfl))
  f298 := Try.func55.trans (congrArg some (by kernel_rfl))
  f299 := Try.func56.trans (congrArg some (by kernel_rfl))
  f300 := Try.func58.trans (congrArg some (by kernel_rfl))
  f301 := Try.func59.trans (congrArg some (by kernel_rfl))
  f328 := Try.func63.trans (congrArg some (by kernel_rfl))
  f329 := Try.func64.trans (congrArg some (by kernel_rfl))
  f330 := Try.func65.trans (congrArg some (by kernel_rfl))
  f331 := Try.func66.trans (congrArg some (by kernel_rfl))
  f332 := Try.func67.trans (congrArg some (by kernel_rfl))
  f343 := Try.func69.trans (congrArg some (by kernel_rfl))
  t0 := Try.underlying0
  a0 := Try.isAgg0
  z0 := Try.sizeOf0
  v0 := Try.zeroValue0
  t3 := Try.underlying3
  a3 := Try.isAgg3
  z3 := Try.sizeOf3
  v3 := Try.zeroValue3
  t4 := Try.underlying4
  a4 := Try.isAgg4
  z4 := Try.sizeOf4
  v4 := Try.zeroValue4
  t5 := Try.underlying5
  a5 := Try.isAgg5
  z5 := Try.sizeOf5
  v5 := Try.zeroValue5
  t9 := Try.underlying9
  a9 := Try.isAgg9
  z9 := Try.sizeOf9
  v9 := Try.zeroValue9
  t28 := Try.underlying23
  a28 := Try.isAgg23
  z28 := Try.sizeOf23
  v28 := Try.zeroValue23
  t46 := Try.underlying69
  a46 := Try.isAgg69
  z46 := Try.sizeOf69
  v46 := Try.zeroValue69
  t51 := Try.underlying83
  a51 := Try.isAgg83
  z51 := Try.sizeOf83
  v51 := Try.zeroValue83
  t53 := Try.underlying85
  a53 := Try.isAgg85
  z53 := Try.sizeOf85
  v53 := Try.zeroValue85
  t131 := Try.underlying80
  a131 := Try.isAgg80
  z131 := Try.sizeOf80
  v131 := Try.zeroValue80
  t182 := Try.underlying74
  a182 := Try.isAgg74
  z182 := Try.sizeOf74
  v182 := Try.zeroValue74
  t183 := Try.underlying75
  a183 := Try.isAgg75
  z183 := Try.sizeOf75
  v183 := Try.zeroValue75
  t218 := Try.underlying87
  a218 := Try.isAgg87
  z218 := Try.sizeOf87
  v218 := Try.zeroValue87
  t222 := Try.underlying91
  a222 := Try.isAgg91
  z222 := Try.sizeOf91
  v222 := Try.zeroValue91
  t228 := Try.underlying93
  a228 := Try.isAgg93
  z228 := Try.sizeOf93
  v228 := Try.zeroValue93
  t229 := Try.underlying94
  a229 := Try.isAgg94
  z229 := Try.sizeOf94
  v229 := Try.zeroValue94 }
open Go.Sort Go.RowKit in
theorem Try.slices_Sort_int (blk off cap : Nat) (zs : List Int) (w : World) (hH : Holds (Value.int .i64) w blk off zs.toArray) (hblk : blk < w.heap.size) (hsz : zs.length < 4611686018427387904) :
    Calls Try.prog 33 #[.slice (some ⟨blk, off, none⟩) zs.length cap] w fun e w' =>
      e = .returned (.tuple #[]) ∧ ∃ n os, w' = grow (putRow (Value.int .i64) (Sort.ahead w n) blk off (zs.mergeSort fun x y => decide (x ≤ y)).toArray) os := Any.slices_Sort_int Try.lays189 blk off cap zs w hH hblk hsz
def Try.lays107_ren : Go.Shelf.Ren := ⟨fun | 107 => 36 | 108 => 49 | n => n, fun | 28 => 23 | 3 => 3 | 4 => 4 | 0 => 0 | n => n, fun | n => n⟩
theorem Try.lays107 : Go.Proofs.Lays.n107 Try.prog Try.lays107_ren := {
  mixed := by kernel_rfl
  f107 := Try.func36.trans (congrArg some (by kernel_rfl))
  f108 := Try.func49.trans (congrArg some (by kernel_rfl))
  t0 := Try.underlying0
  a0 := Try.isAgg0
  z0 := Try.sizeOf0
  v0 := Try.zeroValue0
  t3 := Try.underlying3
  a3 := Try.isAgg3
  z3 := Try.sizeOf3
  v3 := Try.zeroValue3
  t4 := Try.underlying4
  a4 := Try.isAgg4
  z4 := Try.sizeOf4
  v4 := Try.zeroValue4
  t28 := Try.underlying23
  a28 := Try.isAgg23
  z28 := Try.sizeOf23
  v28 := Try.zeroValue23 }
open Go.Lib in
/-- slices.Contains at []int: "Contains reports whether v is present in s.": IT RETURNS 'elements.contains v'; the world is as it was. ITS CALLEE slices.Index IS MET BY ITS OWN CONTRACT OFF THE SHELF (lay that first): no loop is walked here. (LAID: no walk: one application.) -/
theorem Try.slices_Contains_int (b off n c : Nat) (zs : List Int) (x : Int) (w : World) (hz : n ≤ zs.length) (hbig : n ≤ 9223372036854775807) (hc : ∀ j, j < zs.length → w.cell? ⟨b, off + j, none⟩ = some (.int .i64 (zs.getD j 0))) :
    Calls Try.prog 36 #[.slice (some ⟨b, off, none⟩) n c, .int .i64 x] w fun e w' => e = .returned (.bool ((zs.take n).contains x)) ∧ w' = w := Any.slices_Contains_int Try.lays107 b off n c zs x w hz hbig hc
open Go.Lib in
/-- The same at a slice of length 0, a nil one too. (LAID: no walk: one application.) -/
theorem Try.slices_Contains_int_empty (a : Option Addr) (c : Nat) (x : Int) (w : World) :
    Calls Try.prog 36 #[.slice a 0 c, .int .i64 x] w fun e w' => e = .returned (.bool false) ∧ w' = w := Any.slices_Contains_int_empty Try.lays107 a c x w
def Try.laysNm220_ren : Go.Shelf.Ren := ⟨fun | 20 => 34 | n => n, fun | 22 => 23 | 3 => 3 | 4 => 4 | 0 => 0 | n => n, fun | n => n⟩
theorem Try.laysNm220 : Go.Proofs.Lays2.n20 Try.prog Try.laysNm220_ren := {
  mixed := by kernel_rfl
  f20 := Try.func34.trans (congrArg some (by kernel_rfl))
  t0 := Try.underlying0
  a0 := Try.isAgg0
  z0 := Try.sizeOf0
  v0 := Try.zeroValue0
  t3 := Try.underlying3
  a3 := Try.isAgg3
  z3 := Try.sizeOf3
  v3 := Try.zeroValue3
  t4 := Try.underlying4
  a4 := Try.isAgg4
  z4 := Try.sizeOf4
  v4 := Try.zeroValue4
  t22 := Try.underlying23
  a22 := Try.isAgg23
  z22 := Try.sizeOf23
  v22 := Try.zeroValue23
  i3 := by kernel_rfl }
open Go.RowKit Go.Lib Go.Sort in
/-- slices.Compact at []int: "Compact replaces consecutive runs of equal elements with a single copy. This is like the uniq command found on Unix. Compact modifies the contents of the slice s and returns the modified slice, which may have a smaller length. Compact zeroes the elements between the new length and the original length. The result preserves the nilness of s.": IT RETURNS THE SLICE CUT TO 'Lib.compact zs'; ITS CELLS HOLD 'Lib.compact zs', THEN ZERO VALUES up to the old length; all else is as it was, but for the count of draws. IN THE WORDS OF slices.Sort's CONTRACT ('Holds', 'putRow'): so the everyday 'slices.Sort(xs); xs = slices.Compact(xs)' goes from the one contract to the other. It asks 'zs.length ≤ cap' (every slice's: the reslicing 's[:k]' looks at it). Length 0, nil: '.._empty'. (LAID: no walk: one application.) -/
theorem Try.slices_Compact_int (blk off cap : Nat) (zs : List Int) (w : World) (hH : Holds (Value.int .i64) w blk off zs.toArray) (hsz : zs.length ≤ 9223372036854775807) (hcap : zs.length ≤ cap) :
    Calls Try.prog 34 #[.slice (some ⟨blk, off, none⟩) zs.length cap] w fun e w' => e = .returned (.slice (some ⟨blk, off, none⟩) (Lib.compact zs).length cap) ∧ ∃ q, w' = putRow (Value.int .i64) (Sort.ahead w q) blk off (Lib.compact zs ++ List.replicate (zs.length - (Lib.compact zs).length) 0).toArray := Any.slices_Compact_int Try.laysNm220 blk off cap zs w hH hsz hcap
open Go.RowKit Go.Lib Go.Sort in
/-- The same at a slice of length 0, a nil one too: it comes back as it is. (LAID: no walk: one application.) -/
theorem Try.slices_Compact_int_empty (a : Option Addr) (cap : Nat) (w : World) :
    Calls Try.prog 34 #[.slice a 0 cap] w fun e w' => e = .returned (.slice a 0 cap) ∧ w' = w := Any.slices_Compact_int_empty Try.laysNm220 a cap w
open Go.RowKit Go.Sort in
/-- .. and plain. (LAID: no walk: one application.) -/
theorem Try.slices_Sort_int_none (p : Option Addr) (cap : Nat) (w : World) :
    Calls Try.prog 33 #[.slice p 0 cap] w fun e w' => e = .returned (.tuple #[]) ∧ w' = w := Any.slices_Sort_int_none Try.lays189 p cap w
end Go.Proofs
/- slices.Sort, Compact, Clone, Contains, DeleteFunc of whole numbers, over memory in parts. -/
namespace Go.Proofs.Ytckimhhncpnkpaa.H
set_option linter.unusedSimpArgs false
set_option linter.unusedVariables false
open Go.RowKit Go.Proofs.YtckimhhncpnkpaaW.PrintWords Go.Proofs.YtckimhhncpnkpaaW.PrintLast Go.Proofs.YtckimhhncpnkpaaW.PrintMore Go.Proofs.Ytckimhhncpnkpaa.Sep Go.Proofs.Ytckimhhncpnkpaa.Sat
open Go.Sort Go.Lib
section
variable {w0 w : World} {U : Nat → Prop} {L : List Ch} {i : Nat}
theorem heap_sortedI {g n : Nat} {os : Array Obj} {cur : Array Value} {e : TypeId} {fr : Nat × Nat} (d : Array Int) (hb : w.heap[g]? = some (.cells cur e fr)) :
    (grow (putRow (Value.int .i64) (Sort.ahead w n) g 0 d) os).heap[g]? = some (.cells (putCells (Value.int .i64) 0 d cur) e fr) := by
  have hg : g < w.heap.size := (Array.getElem?_eq_some_iff.1 hb).1
  rw [heap_grow_old _ _ (by simpa using hg)]
  simp [putRow, mapBlock, Sort.ahead, Array.getElem?_modify, hb, onCells]
theorem grownBy_sortedI {g n : Nat} {os : Array Obj} (d : Array Int) : w.grownBy (grow (putRow (Value.int .i64) (Sort.ahead w n) g 0 d) os) (some g) := by
  refine ⟨rfl, rfl, rfl, by simp, fun k hk hne => ?_⟩
  rw [heap_grow_old _ _ (by simpa using hk)]
  have : g ≠ k := fun e => hne (by rw [e])
  simp [putRow, mapBlock, Sort.ahead, Array.getElem?_modify, this]
theorem take_putCellsI (cur : Array Value) (d : List Int) (h : d.length ≤ cur.size) : (putCells (Value.int .i64) 0 d.toArray cur).toList.take d.length = d.map (Value.int .i64) := by
  apply List.ext_getElem?
  intro j
  by_cases hj : j < d.length
  · rw [List.getElem?_take_of_lt hj, Array.getElem?_toList, List.getElem?_map, List.getElem?_eq_getElem hj]
    simp [putCells, hj, show j < cur.size by omega]
  · rw [List.getElem?_eq_none (by rw [List.length_take]; omega), List.getElem?_eq_none (by simpa using hj)]
/-- A row whose cells hold other numbers. -/
theorem st_putRow (h : St w0 U w L) {g n c : Nat} {xs : List Int} (hi : L[i]? = some (ir (some ⟨g, 0, none⟩) n c xs)) (ys : List Int) (hy : ys.length = n) (q : Nat) (os : Array Obj) :
    St w0 U (grow (putRow (Value.int .i64) (Sort.ahead w q) g 0 ys.toArray) os) (L.set i (ir (some ⟨g, 0, none⟩) n c ys)) := by
  obtain ⟨fp, ⟨h1, h2⟩, hk⟩ := h.upd hi
  refine hk _ _ fp ⟨?_, h2⟩ (fun k hk => .inl hk) ((Keeps.of_grown (grownBy_sortedI ys.toArray)).mono fun k e => (h2 k).2 e)
  refine ⟨by rw [List.length_map]; omega, ?_⟩
  rcases h1.2 with ⟨hv, _⟩ | ⟨g', cap, cur, hv, hb, hg, h3, h4, h5, h6⟩
  · injection hv with hv; cases hv
  · injection hv with hv _ hc
    injection hv with hv
    injection hv with hv
    subst hv
    subst hc
    refine .inr ⟨g, c, _, rfl, hb, heap_sortedI ys.toArray hg, h3, h4, by simp [putCells, h5], ?_⟩
    rw [Nat.mul_one, ← hy]
    exact take_putCellsI cur ys (by omega)
theorem ir_none (h : St w0 U w L) {n c : Nat} {xs : List Int} (hi : L[i]? = some (ir none n c xs)) : n = 0 ∧ c = 0 ∧ xs = [] := by
  have h1 := h.ir_own hi
  have h2 := h.ir_len hi
  rcases h1.2 with ⟨hv, h0⟩ | ⟨g', cap, cur, hv, _⟩
  · injection hv with _ _ hc
    subst h0
    exact ⟨rfl, hc, List.eq_nil_of_length_eq_zero h2⟩
  · injection hv with hv; cases hv
theorem ir_addr (h : St w0 U w L) {A : Option Addr} {n c : Nat} {xs : List Int} (hi : L[i]? = some (ir A n c xs)) : A = none ∨ ∃ g, A = some ⟨g, 0, none⟩ := by
  rcases (h.ir_own hi).2 with ⟨hv, _⟩ | ⟨g', cap, cur, hv, _⟩
  · injection hv with hv; exact .inl hv
  · injection hv with hv; exact .inr ⟨g', hv⟩
theorem set_same {α : Type} {L : List α} {i : Nat} {x : α} (h : L[i]? = some x) : L.set i x = L := by
  apply List.ext_getElem?
  intro q
  rw [List.getElem?_set]
  by_cases hq : i = q
  · subst hq
    rw [if_pos rfl, if_pos (List.getElem?_eq_some_iff.1 h).1, h]
  · rw [if_neg hq]
theorem holdsI (h : St w0 U w L) {g n c : Nat} {xs : List Int} (hi : L[i]? = some (ir (some ⟨g, 0, none⟩) n c xs)) : Holds (Value.int .i64) w g 0 xs.toArray := fun j hj => by
  have hj' : j < xs.length := by simpa using hj
  refine ⟨?_, by rw [Nat.zero_add]; exact h.ir_frz hi j⟩
  rw [Nat.zero_add, h.ir_cell hi (List.getElem?_eq_getElem hj')]
  simp [hj']
theorem ir_live (h : St w0 U w L) {g n c : Nat} {xs : List Int} (hi : L[i]? = some (ir (some ⟨g, 0, none⟩) n c xs)) : g < w.heap.size := by
  obtain ⟨fp, h1, _⟩ := h.sat hi
  exact (ir _ _ _ _).live h1 g ((h1.2 g).2 rfl)
def srt (xs : List Int) : List Int := xs.mergeSort fun x y => decide (x ≤ y)
theorem q_sortI (h : St w0 U w L) {A : Option Addr} {n c : Nat} {xs : List Int} (hi : L[i]? = some (ir A n c xs)) (hn : n ≤ 1000000000) :
    Calls Try.prog 33 #[.slice A n c] w fun e w' => e = .returned (.tuple #[]) ∧ St w0 U w' (L.set i (ir A n c (srt xs))) := by
  have hl := h.ir_len hi
  rcases ir_addr h hi with rfl | ⟨g, rfl⟩
  · obtain ⟨rfl, rfl, rfl⟩ := ir_none h hi
    refine (Try.slices_Sort_int_none none 0 w).mono fun e w' hh => ⟨hh.1, ?_⟩
    rw [hh.2, show srt [] = [] by unfold srt; simp, set_same hi]
    exact h
  · subst hl
    refine (Try.slices_Sort_int g 0 c xs w (holdsI h hi) (ir_live h hi) (by omega)).mono fun e w' hh => ⟨hh.1, ?_⟩
    obtain ⟨q, os, rfl⟩ := hh.2
    exact st_putRow h hi (srt xs) (by unfold srt; rw [List.length_mergeSort]) q os
theorem compact_nil : Lib.compact ([] : List Int) = [] := rfl
theorem q_compactI (h : St w0 U w L) {A : Option Addr} {n c : Nat} {xs : List Int} (hi : L[i]? = some (ir A n c xs)) (hn : n ≤ 1000000000) :
    Calls Try.prog 34 #[.slice A n c] w fun e w' => e = .returned (.slice A (Lib.compact xs).length c) ∧ St w0 U w' (L.set i (ir A (Lib.compact xs).length c (Lib.compact xs))) := by
  have hl := h.ir_len hi
  rcases ir_addr h hi with rfl | ⟨g, rfl⟩
  · obtain ⟨rfl, rfl, rfl⟩ := ir_none h hi
    refine (Try.slices_Compact_int_empty none 0 w).mono fun e w' hh => ⟨hh.1, ?_⟩
    rw [hh.2, compact_nil, List.length_nil, set_same hi]
    exact h
  · subst hl
    have hcap := h.ir_cap hi
    have hle := compact_length_le xs
    refine (Try.slices_Compact_int g 0 c xs w (holdsI h hi) (by omega) hcap.1).mono fun e w' hh => ⟨hh.1, ?_⟩
    obtain ⟨q, rfl⟩ := hh.2
    have h1 := st_putRow h hi (Lib.compact xs ++ List.replicate (xs.length - (Lib.compact xs).length) 0) (by rw [List.length_append, List.length_replicate]; omega) q #[]
    rw [grow_empty] at h1
    have h2 := h1.ir_take (i := i) (by rw [List.getElem?_set_self (List.getElem?_eq_some_iff.1 hi).1]) (Lib.compact xs).length hle
    rw [List.set_set, List.take_left] at h2
    exact h2
theorem lit_ir0 {g : Nat} (h : St w0 U w (blk g #[] 3 :: L)) : St w0 U w (ir (some ⟨g, 0, none⟩) 0 0 [] :: L) := by
  obtain ⟨fp, ⟨h1, h2⟩, h3, h4⟩ := h.sep
  refine ⟨h.keeps, ⟨fp, ⟨⟨by rfl, .inr ⟨g, 0, #[], rfl, Nat.zero_le _, h1, Nat.le_refl _, by decide, rfl, rfl⟩⟩, fun k => (h2 k).trans ⟨fun e => by rw [e]; rfl, fun e => by
    have e2 : some g = some k := e
    exact (Option.some.inj e2).symm⟩⟩, h3, h4⟩, h.up⟩
theorem Rd.rdc {A : Option Addr} {xs : List Int} (h : Rd w A xs) : Rdc w A xs.length (xs.map (Value.int .i64)) := fun hn => by
  obtain ⟨ad, e, _⟩ := h 0 xs[0] (List.getElem?_eq_getElem hn)
  refine ⟨ad, e, fun j u hu => ?_⟩
  rw [List.getElem?_map] at hu
  obtain ⟨x, hx, rfl⟩ := Option.map_eq_some_iff.1 hu
  obtain ⟨ad', e', hc⟩ := h j x hx
  rw [e] at e'
  cases e'
  exact hc
set_option maxHeartbeats 1000000 in
theorem q_cloneI (h : St w0 U w L) {A : Option Addr} {c k : Nat} {xs : List Int} {C : Ch} (hi : L[k]? = some C) (hC : Lets C A xs) (hn : xs.length ≤ 1000000000) :
    Calls Try.prog 32 #[.slice A xs.length c] w fun e w' => ∃ A' c', e = .returned (.slice A' xs.length c') ∧ St w0 U w' (ir A' xs.length c' xs :: L) := by
  have HR := Aside0.mk (h.lets hi hC)
  have HI := Aside0.mk hi
  have HC := Aside0.mk hC
  have HLEN := Aside0.mk hn
  have H := Aside0.mk h
  clear h hi hC hn
  go_enter Try.func32, Try.ntmps32
  cases A with
  | none =>
    have h0 : xs = [] := by
      have := HR.out
      cases xs with
      | nil => rfl
      | cons a t => obtain ⟨ad, e, _⟩ := this 0 a rfl; cases e
    subst h0
    have he : ∀ W : World, (binOp .eql 23 (.slice none 0 c) (.slice none 0 0)).run Try.prog W = .ok (.bool true) W := fun W => Lib.run_eql_slice_nil W _ _ none _ _ _ _ Try.underlying23
    go_wp2
    go_ret
    exact ⟨none, 0, rfl, H.out.keeps, ir_nil H.out.sep, H.out.up⟩
  | some ad =>
    have he : ∀ W : World, (binOp .eql 23 (.slice (some ad) xs.length c) (.slice none 0 0)).run Try.prog W = .ok (.bool false) W := fun W => Lib.run_eql_slice_nil W _ _ (some ad) _ _ _ _ Try.underlying23
    go_wp2_with (first
      | ((with_reducible refine gate_dst (N := 5) rfl ?_); refine ev_lit rfl H.out (n := 0) (cs := #[]) (t := 3) ?hr ?_; (case hr => first | (go_simp; done) | (go_simp; rfl)); intro g w1 H1; have H1 := lit_ir0 H1; clear H; have H := Aside0.mk H1; clear H1)
      | ((with_reducible refine gate_builtin (b := .append) (xs := #[.tmp 5, .tmp 6]) rfl ?_); refine ev_append rfl H.out (i := 0) rfl (s := .tmp 5) (x := .tmp 6) rfl Try.underlying23 infoI rfl rfl (m := xs.length) (ys := xs) rfl (H.out.lets (i := k + 1) HI.out HC.out).rdc (by have := HLEN.out; omega) ?_; intro A2 c2 w2 H2; clear H))
    go_ret
    refine ⟨A2, c2, rfl, ?_⟩
    simpa only [Nat.zero_add, List.nil_append, List.set_cons_zero] using H2
theorem q_containsI {A : Option Addr} {c : Nat} {xs : List Int} (y : Int) (hr : RdB w A xs) (hl : xs.length ≤ 1000000000) :
    Calls Try.prog 36 #[.slice A xs.length c, .int .i64 y] w fun e w' => e = .returned (.bool (xs.contains y)) ∧ w = w' := by
  by_cases h0 : xs.length = 0
  · obtain rfl := List.eq_nil_of_length_eq_zero h0
    exact (Try.slices_Contains_int_empty A c y w).mono fun e w' hh => ⟨hh.1, hh.2.symm⟩
  · obtain ⟨g, rfl, _⟩ := hr 0 xs[0] (List.getElem?_eq_getElem (by omega))
    refine (Try.slices_Contains_int g 0 xs.length c xs y w (Nat.le_refl _) (by omega) (fun j hj => ?_)).mono fun e w' hh => ⟨by rw [hh.1, List.take_length], hh.2.symm⟩
    obtain ⟨g', e, hc⟩ := hr j xs[j] (List.getElem?_eq_getElem hj)
    cases e
    rw [Nat.zero_add, hc, List.getD_eq_getElem?_getD, List.getElem?_eq_getElem hj]; rfl
theorem st_setCells : ∀ (ys : List Int) (o : Nat) {w : World} {L : List Ch} {g n c : Nat} {xs : List Int}, St w0 U w L → L[i]? = some (ir (some ⟨g, 0, none⟩) n c xs) → o + ys.length ≤ n → ∃ zs : List Int, zs.take o = xs.take o ∧ St w0 U (w.setCells g o (ys.map (Value.int .i64))) (L.set i (ir (some ⟨g, 0, none⟩) n c zs))
  | [], o, w, L, g, n, c, xs, h, hi, _ => ⟨xs, rfl, by rw [set_same hi]; exact h⟩
  | y :: r, o, w, L, g, n, c, xs, h, hi, hl => by
    rw [List.length_cons] at hl
    have h1 := h.ir_set hi o y (by omega)
    obtain ⟨zs, e, h2⟩ := st_setCells r (o + 1) h1 (by rw [List.getElem?_set_self (List.getElem?_eq_some_iff.1 hi).1]) (by omega)
    rw [List.set_set] at h2
    refine ⟨zs, ?_, h2⟩
    have e2 := congrArg (List.take o) e
    rw [List.take_take, List.take_take, Nat.min_eq_left (by omega), List.take_set_of_le (Nat.le_refl _)] at e2
    exact e2
end
set_option maxHeartbeats 1000000 in
theorem q_Add2 {w : World} {U : Nat → Prop} {b g1 g2 c : Nat} {S : Sol} {E : List En} {M : List (Int × En)} {L : List Ch} {A : Option Addr} {l : List Int} {x t : Int} (hs : Sep w (solG b S E M :: L) U) (h1 : w.cell? ⟨g1, 0, none⟩ = some (.slice A l.length c)) (h2 : w.cell? ⟨g2, 0, none⟩ = some (.pointer (some ⟨b, 0, none⟩)))
    (hr : RdB w A l) (hl : l.length ≤ 1000000000) (ht : S.truth x = some t) (hn : S.is.length ≤ 1000000000) (hx : -1000000000 ≤ x ∧ x ≤ 1000000000) :
    Calls Try.prog 35 #[.int .i64 x, .pointer (some ⟨g1, 0, none⟩), .pointer (some ⟨g2, 0, none⟩)] w fun e w' => e = .returned (.bool (l.contains (-x) || t == 1)) ∧ w = w' := by
  have HS := Aside0.mk hs
  have HR := Aside0.mk hr
  have HL := Aside0.mk hl
  have HT := Aside0.mk ht
  have HN := Aside0.mk hn
  have hw : wrap64 (-x) = -x := by unfold wrap64; omega
  clear hs hr hl ht hn hx
  by_cases hc : l.contains (-x) = true
  · rw [hc, Bool.true_or]
    have HC := Aside0.mk hc
    clear hc
    go_enter Try.func35, Try.ntmps35
    go_wp2_with (first
      | (go_at_call 36; (with_reducible refine (q_containsI (-x) HR.out HL.out).mono ?_); rintro e w' ⟨rfl, rfl⟩; rw [HC.out]))
    go_ret
    exact ⟨rfl, rfl⟩
  · have HC := Aside0.mk (Bool.eq_false_iff.2 hc)
    rw [HC.out, Bool.false_or]
    clear hc
    go_enter Try.func35, Try.ntmps35
    go_wp2_with (first
      | (go_at_call 36; (with_reducible refine (q_containsI (-x) HR.out HL.out).mono ?_); rintro e w' ⟨rfl, rfl⟩; rw [HC.out])
      | (go_at_call 37; (with_reducible refine (q_truthM HS.out HT.out HN.out).mono ?_); rintro e w' ⟨rfl, rfl⟩))
    go_ret
    exact ⟨rfl, rfl⟩
set_option maxHeartbeats 1000000 in
theorem q_Add3 {w : World} {U : Nat → Prop} {b g2 : Nat} {S : Sol} {E : List En} {M : List (Int × En)} {L : List Ch} {x t : Int} (hs : Sep w (solG b S E M :: L) U) (h2 : w.cell? ⟨g2, 0, none⟩ = some (.pointer (some ⟨b, 0, none⟩)))
    (ht : S.truth x = some t) (hn : S.is.length ≤ 1000000000) :
    Calls Try.prog 39 #[.int .i64 x, .pointer (some ⟨g2, 0, none⟩)] w fun e w' => e = .returned (.bool (t == -1)) ∧ w = w' := by
  have HS := Aside0.mk hs
  have HT := Aside0.mk ht
  have HN := Aside0.mk hn
  clear hs ht hn
  go_enter Try.func39, Try.ntmps39
  go_wp2_with (first
    | (go_at_call 37; (with_reducible refine (q_truthM HS.out HT.out HN.out).mono ?_); rintro e w' ⟨rfl, rfl⟩))
  go_ret
  exact ⟨rfl, rfl⟩
end Go.Proofs.Ytckimhhncpnkpaa.H
/- slices.DeleteFunc by Add's third closure. -/
namespace Go.Proofs.Ytckimhhncpnkpaa.H
set_option linter.unusedSimpArgs false
set_option linter.unusedVariables false
open Go.RowKit Go.Proofs.YtckimhhncpnkpaaW.PrintWords Go.Proofs.YtckimhhncpnkpaaW.PrintLast Go.Proofs.YtckimhhncpnkpaaW.PrintMore Go.Proofs.Ytckimhhncpnkpaa.Sep Go.Proofs.Ytckimhhncpnkpaa.Sat
theorem zeroI : ∀ w, (zeroValue 3).run Try.prog w = .ok (.int .i64 0) w := fun w => by kernel_rfl
theorem ev_clear {ops : Array Oper} {o_ : Oper} {rest : List Oper} {a : Act} {Q : Exit → Act → World → Prop} {w0 W : World} {U : Nat → Prop} {L : List Ch} {k : Nat} (hgd : o_.guard = none) (H : St w0 U W L) {g n c o m cB : Nat} {xs : List Int} (hi : L[k]? = some (ir (some ⟨g, 0, none⟩) n c xs)) {x : Operand} {t : TypeId} (ho : o_.op = .call { callee := .builtin .clear, args := #[x], argTypes := #[t] })
    (ht : Try.prog.underlying t = some (.slice 3)) (hx : a.eval x = .slice (some ⟨g, o, none⟩) m cB) (hm : 0 < m) (hom : o + m ≤ n)
    (h : ∀ w1 ys, ys.take o = xs.take o → St w0 U w1 (L.set k (ir (some ⟨g, 0, none⟩) n c ys)) → wpList Try.prog ops Q rest (a.put o_.dst (.tuple #[])) w1) : wpList Try.prog ops Q (o_ :: rest) a W := by
  have hr := Lib.run_clear_slice (P := Try.prog) W t 3 o_.type (.int .i64 0) ht zeroI rfl rfl g o m cB hm (fun j hj => by
    have hl := H.ir_len hi
    rw [H.ir_cell hi (List.getElem?_eq_getElem (show o + j < xs.length by omega))]; rfl) (fun j hj => H.ir_frz hi _)
  obtain ⟨zs, e, h2⟩ := st_setCells (List.replicate m 0) o H hi (by rw [List.length_replicate]; exact hom)
  rw [List.map_replicate] at h2
  refine Kd.event_run hgd (v := .tuple #[]) ?_ (h _ zs e h2)
  unfold execOp
  simp only [ho, resolve, invoke, builtin, Sem.run_bind, Sem.run_pure, Result.andThen_ok, List.map_toArray, List.map_cons, List.map_nil, hx, hr]
/-- The rows that DeleteFunc goes through. -/
def dlt (p : Int → Bool) (l : List Int) : List Int := l.filter fun x => !p x
theorem idxP_none (p : Int → Bool) : ∀ (l : List Int) (k : Int), 0 ≤ k → idxP p l k = -1 → dlt p l = l
  | [], _, _, _ => rfl
  | x :: r, k, hk, h => by
    by_cases hx : p x = true
    · rw [show idxP p (x :: r) k = k from if_pos hx] at h; omega
    · rw [show idxP p (x :: r) k = idxP p r (k + 1) from if_neg hx] at h
      unfold dlt
      rw [List.filter_cons, if_pos (by rw [Bool.eq_false_iff.2 hx]; rfl)]
      exact congrArg _ (idxP_none p r (k + 1) (by omega) h)
theorem idxP_some (p : Int → Bool) : ∀ (l : List Int) (k : Nat), idxP p l (k : Int) ≠ -1 → ∃ i : Nat, idxP p l (k : Int) = ((k + i : Nat) : Int) ∧ i < l.length ∧ dlt p (l.take i) = l.take i ∧ ∃ x, l[i]? = some x ∧ p x = true
  | [], _, h => absurd rfl h
  | x :: r, k, h => by
    by_cases hx : p x = true
    · exact ⟨0, if_pos hx, by simp, rfl, x, rfl, hx⟩
    · rw [show idxP p (x :: r) (k : Int) = idxP p r ((k : Int) + 1) from if_neg hx] at h ⊢
      obtain ⟨i, h1, h2, h3, y, h4, h5⟩ := idxP_some p r (k + 1) h
      refine ⟨i + 1, by rw [show ((k : Int) + 1) = ((k + 1 : Nat) : Int) from rfl, h1]; congr 1; omega, by simpa using h2, ?_, y, h4, h5⟩
      rw [List.take_succ_cons]
      unfold dlt at h3 ⊢
      rw [List.filter_cons, if_pos (by rw [Bool.eq_false_iff.2 hx]; rfl), h3]
theorem dlt_snoc (p : Int → Bool) (l : List Int) (j : Nat) (x : Int) (h : l[j]? = some x) : dlt p (l.take (j + 1)) = dlt p (l.take j) ++ (if p x = true then [] else [x]) := by
  have hj := (List.getElem?_eq_some_iff.1 h).1
  rw [List.take_succ_eq_append_getElem hj, (List.getElem?_eq_some_iff.1 h).2]
  unfold dlt
  rw [List.filter_append]
  congr 1
  by_cases hx : p x = true
  · simp [hx]
  · simp [hx]
set_option maxHeartbeats 4000000 in
set_option maxRecDepth 100000 in
theorem q_deleteI {w0 w : World} {U : Nat → Prop} {L : List Ch} {k n c g2 : Nat} {A : Option Addr} {l : List Int} (p : Int → Bool) (h : St w0 U w L) (hi : L[k]? = some (ir A n c l)) (hn : n ≤ 1000000000)
    (hcl : ∀ x ∈ l, ∀ (W : World) (zs : List Int), St w0 U W (L.set k (ir A n c zs)) → Calls Try.prog 39 #[.int .i64 x, .pointer (some ⟨g2, 0, none⟩)] W fun e w' => e = .returned (.bool (p x)) ∧ Below W.heap.size W w') :
    Calls Try.prog 38 #[.slice A n c, .func (.func 39) #[] #[.pointer (some ⟨g2, 0, none⟩)]] w fun e w' => e = .returned (.slice A (dlt p l).length c) ∧ St w0 U w' (L.set k (ir A (dlt p l).length c (dlt p l))) := by
  have hl := h.ir_len hi
  subst hl
  have hks := (List.getElem?_eq_some_iff.1 hi).1
  have hix := ix_Add3 g2 p A c l w (h.rd hi) (by omega) (fun x hx W hb => by
    have h2 := h.quiet hb
    have e : L.set k (ir A l.length c l) = L := set_same hi
    exact hcl x hx W l (by rw [e]; exact h2))
  by_cases hno : idxP p l 0 = -1
  · rw [idxP_none p l 0 (Int.le_refl _) hno, set_same hi]
    rw [hno] at hix
    have HIX := Aside0.mk hix
    have H := Aside0.mk h
    clear hix h hi hcl hno hks
    go_enter Try.func38, Try.ntmps38
    go_wp2_with (first
      | (go_at_call 42; (with_reducible refine HIX.out.mono ?_); rintro e w1 ⟨rfl, hb1⟩; have H1 := H.out.quiet hb1))
    go_ret
    exact ⟨rfl, H1⟩
  · obtain ⟨i0, hi0, hi1, hi2, x0, hx0, hp0⟩ := idxP_some p l 0 hno
    rw [Nat.zero_add] at hi0
    rw [show ((0 : Nat) : Int) = 0 from rfl] at hi0
    rw [hi0] at hix
    obtain ⟨g, rfl⟩ := h.ir_some hi (by omega)
    have hcap := h.ir_cap hi
    have HIX := Aside0.mk hix
    have H := Aside0.mk h
    have HK := Aside0.mk (And.intro hi hks)
    have HCL := Aside0.mk hcl
    have HN := Aside0.mk (And.intro True.intro (And.intro hn hcap))
    have HI0 := Aside0.mk (And.intro hi1 (And.intro hi2 True.intro))
    have HX0 := Aside0.mk (And.intro hx0 hp0)
    have hw0 : wrap64 ((i0 : Int) + 1) = (i0 : Int) + 1 := by unfold wrap64; omega
    have d0 : ((i0 : Int) == -1) = false := beq_eq_false_iff_ne.2 (by omega)
    clear hix h hi hcl hno hi0 hi1 hi2 hx0 hp0 hks hn hcap
    go_enter Try.func38, Try.ntmps38
    go_wp2_with (first
      | (go_at_call 42; (with_reducible refine HIX.out.mono ?_); rintro e w1 ⟨rfl, hb1⟩; have H1 := H.out.quiet hb1; clear H hb1))
    have H0 := Aside0.mk (show St w0 U w1 (L.set k (ir (some ⟨g, 0, none⟩) l.length c l)) from by rw [set_same HK.out.1]; exact H1)
    have HW0 := Aside0.mk hw0
    clear H1 hw0 d0
    go_loopg [6, 5] (l.length + 1) (fun kq v6 v5 wr => ∃ (j i : Nat) (zs : List Int), v6 = .int .i64 (j : Int) ∧ v5 = .int .i64 (i : Int) ∧ Aside0 (i < j ∧ j ≤ l.length) ∧ Aside0 (l.length - j < kq) ∧ Aside0 (zs.take i = dlt p (l.take j) ∧ zs.drop j = l.drop j ∧ zs.length = l.length) ∧ Aside0 (St w0 U wr (L.set k (ir (some ⟨g, 0, none⟩) l.length c zs))))
    case atStart =>
      refine ⟨i0 + 1, i0, l, by first | rfl | (rw [HW0.out]; rfl) | go_num, rfl, ⟨by have := HI0.out.1; omega⟩, ⟨by omega⟩, ⟨?_, rfl, rfl⟩, H0⟩
      rw [dlt_snoc p l i0 x0 HX0.out.1, if_pos HX0.out.2, List.append_nil, HI0.out.2.1]
    case round =>
      clear H0
      obtain ⟨j, i, zs, rfl, rfl, HIJ, HQ, HZ, H0⟩ := hrel
      cases gk with
      | zero => exact absurd HQ.out (by have := HIJ.out; omega)
      | succ k1 =>
      have hn := HN.out.2.1
      have hks : (L.set k (ir (some ⟨g, 0, none⟩) l.length c zs))[k]? = some (ir (some ⟨g, 0, none⟩) l.length c zs) := by rw [List.getElem?_set_self HK.out.2]
      by_cases hj : j < l.length
      case pos =>
        obtain ⟨x, hx⟩ : ∃ x, l[j]? = some x := ⟨_, List.getElem?_eq_getElem hj⟩
        have hzx : zs[j]? = some x := by
          have := congrArg (fun z => z[0]?) HZ.out.2.1
          simp only [List.getElem?_drop, Nat.add_zero] at this
          rw [this, hx]
        have zj := H0.out.ir_cell hks hzx
        have HXM := Aside0.mk (List.mem_of_getElem? hx)
        have hij := HIJ.out
        have d1 : decide ((j : Int) < (l.length : Int)) = true := decide_eq_true (by omega)
        have d2 : decide (j < l.length) = true := decide_eq_true hj
        have p1 : (0 ≤ (j : Int)) = True := eq_true (by omega)
        have p2 : ((j : Int) < (l.length : Int)) = True := eq_true (by omega)
        have p3 : (j < l.length) = True := eq_true hj
        have p4 : wrap64 ((j : Int) + 1) = (j : Int) + 1 := by unfold wrap64; omega
        have hsn := dlt_snoc p l j x hx
        have HJ := Aside0.mk hj
        have HZX := Aside0.mk hzx
        by_cases hp : p x = true
        · rw [if_pos hp, List.append_nil] at hsn
          have HSN := Aside0.mk hsn
          have HPX := Aside0.mk hp
          clear hp hsn hj hx hzx hks hij
          go_wp2_with (first
            | (go_at_call 39; (with_reducible refine (HCL.out x HXM.out _ _ H0.out).mono ?_); rw [HPX.out]; rintro e w2 ⟨rfl, hb1⟩; have H1 := H0.out.quiet hb1; clear H0 hb1 zj))
          go_roundg k1
          case measure => have := HJ.out; have := HQ.out; omega
          case rel =>
            refine ⟨j + 1, i, zs, by go_num, rfl, ⟨by have := HIJ.out; have := HJ.out; omega⟩, ⟨by have := HJ.out; have := HQ.out; omega⟩, ⟨HZ.out.1.trans HSN.out.symm, ?_, HZ.out.2.2⟩, ⟨H1⟩⟩
            have := congrArg (List.drop 1) HZ.out.2.1
            rwa [List.drop_drop, List.drop_drop] at this
        · rw [if_neg hp] at hsn
          have HSN := Aside0.mk hsn
          have HPX := Aside0.mk (Bool.eq_false_iff.2 hp)
          obtain ⟨y, hy⟩ : ∃ y, zs[i]? = some y := ⟨_, List.getElem?_eq_getElem (by have := HZ.out.2.2; omega)⟩
          have HYY := Aside0.mk hy
          have HKS := Aside0.mk hks
          have q1 : (0 ≤ (i : Int)) = True := eq_true (by omega)
          have q2 : ((i : Int) < (l.length : Int)) = True := eq_true (by omega)
          have q3 : (i < l.length) = True := eq_true (by omega)
          have q4 : wrap64 ((i : Int) + 1) = (i : Int) + 1 := by unfold wrap64; omega
          clear hp hsn hj hx hzx hks hij hy
          go_wp2_with (first
            | (go_at_call 39; (with_reducible refine (HCL.out x HXM.out _ _ H0.out).mono ?_); rw [HPX.out]; rintro e w2 ⟨rfl, hb1⟩; have H1 := H0.out.quiet hb1; clear H0 hb1 zj; have H0 := Aside0.mk H1; clear H1; have zi := H0.out.ir_cell HKS.out HYY.out; have fz := H0.out.ir_frz HKS.out)
            | ((with_reducible refine gate_store (t := 3) (p := 33) (v := .tmp 32) rfl ?_); refine ev_set rfl H0.out HKS.out i x (by have := HIJ.out; have := HJ.out; omega) ?hr ?_; (case hr => first | (go_simp; done) | (go_simp; rfl)); intro w3 H1; clear H0 zi fz))
          go_roundg k1
          case measure => have := HJ.out; have := HQ.out; omega
          case rel =>
            refine ⟨j + 1, i + 1, zs.set i x, by go_num, by go_num, ⟨by have := HIJ.out; have := HJ.out; omega⟩, ⟨by have := HJ.out; have := HQ.out; omega⟩, ⟨?_, ?_, by rw [List.length_set]; exact HZ.out.2.2⟩, ⟨by rw [List.set_set] at H1; exact H1⟩⟩
            · rw [HSN.out, ← HZ.out.1]
              have hil : i < zs.length := by have := HZ.out.2.2; have := HIJ.out; have := HJ.out; omega
              rw [List.take_succ_eq_append_getElem (by rw [List.length_set]; exact hil), List.getElem_set_self, List.take_set_of_le (Nat.le_refl _)]
            · rw [List.drop_set_of_lt (by have := HIJ.out; omega)]
              have := congrArg (List.drop 1) HZ.out.2.1
              rwa [List.drop_drop, List.drop_drop] at this
      case neg =>
        have hje : j = l.length := by have := HIJ.out; omega
        subst hje
        have hz := HZ.out.1
        rw [List.take_length] at hz
        have hlen : (dlt p l).length = i := by rw [← hz, List.length_take]; have := HZ.out.2.2; have := HIJ.out; omega
        have d1 : decide ((l.length : Int) < (l.length : Int)) = false := decide_eq_false (by omega)
        have d2 : decide (l.length < l.length) = false := decide_eq_false (by omega)
        have hij := HIJ.out
        have hcc := HN.out.2.2
        unfold maxLen at hcc
        have p1 : (0 ≤ (i : Int)) = True := eq_true (by omega)
        have p2 : ((i : Int) ≤ (l.length : Int)) = True := eq_true (by omega)
        have p3 : (i ≤ l.length) = True := eq_true (by omega)
        have p4 : ((i : Int) ≤ (c : Int)) = True := eq_true (by omega)
        have p5 : (i ≤ c) = True := eq_true (by omega)
        have p6 : (c = i) = False := eq_false (by omega)
        have HKs := Aside0.mk hks
        have HZ2 := Aside0.mk hz
        have HL2 := Aside0.mk hlen
        have HIL := Aside0.mk (show i < l.length by omega)
        clear hj hij hcc hz hlen hks
        go_wp2_with (first
          | ((with_reducible refine gate_builtin (b := .clear) (xs := #[.tmp 38]) rfl ?_); refine ev_clear rfl H0.out HKs.out (o := i) (m := l.length - i) (x := .tmp 38) (cB := c - i) rfl Try.underlying23 rfl (by have := HIL.out; omega) (by have := HIL.out; omega) ?_; intro w9_ ys hys H9; clear H0; have HYS := Aside0.mk hys; clear hys))
        go_ret
        have h9 := H9.ir_take (i := k) (by rw [List.getElem?_set_self (by rw [List.length_set]; exact HK.out.2)]) i (by have := HIL.out; omega)
        rw [List.set_set, List.set_set, HYS.out, HZ2.out] at h9
        rw [HL2.out]
        exact ⟨rfl, h9⟩
end Go.Proofs.Ytckimhhncpnkpaa.H
/- Add. -/
namespace Go.Proofs.Ytckimhhncpnkpaa.H
set_option linter.unusedSimpArgs false
set_option linter.unusedVariables false
open Go.RowKit Go.Proofs.YtckimhhncpnkpaaW.PrintWords Go.Proofs.YtckimhhncpnkpaaW.PrintLast Go.Proofs.YtckimhhncpnkpaaW.PrintMore Go.Proofs.Ytckimhhncpnkpaa.Sep Go.Proofs.Ytckimhhncpnkpaa.Sat
/-- A clause more is counted; the greatest variable. -/
def mo (S : Sol) (m : Int) : Sol := { S with added := S.added + 1, vars := m }
def addRest (R : Sol) : List Int → Sol
  | [] => { R with nothing := true }
  | [x] => R.put x (-1)
  | x :: y :: r => R.keep (x :: y :: r)
theorem addTo_eq (R : Sol) (l2 : List Int) (h : ¬ (l2.any (fun x => l2.contains (-x) || R.truth x == some 1) = true)) : R.addTo l2 = addRest R (dlt (fun x => R.truth x == some (-1)) l2) := by
  unfold Sol.addTo
  rw [if_neg h]
  unfold dlt
  generalize l2.filter (fun x => !(R.truth x == some (-1))) = L
  match L with
  | [] => rfl
  | [x] => rfl
  | x :: y :: r => rfl
open Classical in
set_option maxHeartbeats 8000000 in
set_option maxRecDepth 100000 in
theorem q_Add {w : World} {b n : Nat} {S R : Sol} {l l2 : List Int} {A : Option Addr} {c : Nat} {C : Ch} (hC : Lets C A l) (hlit : ∀ x ∈ l, isLit x = true) (hl : l.length ≤ 1000000000) (had : 0 ≤ S.added ∧ S.added < 100000) (h5 : Five S n) (hn : n ≤ 1000000000) (hv : 0 ≤ S.vars ∧ S.vars ≤ 200000)
    (hR : (S.more l).room (maxVar l S.vars) = R) (h2 : Lib.compact (srt l) = l2) (hm : ∀ x ∈ l2, x ∈ l) (hl2 : l2.length ≤ 1000000000) (htr : ∀ x ∈ l, ∃ t, R.truth x = some t) (hri : R.is.length ≤ 1000000000) (hput : ∀ x ∈ l, R.mayPut x) (hkeep : R.mayKeep) :
    Does Try.prog 18 #[.pointer (some ⟨b, 0, none⟩), .slice A l.length c] w [sol b S, C] fun e L => e = .returned (.int .i64 0) ∧ L = [sol b (R.addTo l2), C] := by
  have mixed : Try.prog.follows Departure.mixedOrders = true := by kernel_rfl
  refine does_intro fun U hs => ?_
  have H0 := Aside0.mk hs
  have HLN := Aside0.mk hl
  have HC := Aside0.mk hC
  have HLT := Aside0.mk hlit
  have HAN := Aside0.mk (show (l.any fun x => !isLit x) = false from by
    rw [List.any_eq_false]
    intro x hx
    rw [hlit x hx]
    decide)
  obtain ⟨mv, hmv⟩ : ∃ mv, maxVar l S.vars = mv := ⟨_, rfl⟩
  rw [hmv] at hR
  have hml := maxVar_le l S.vars
  rw [hmv] at hml
  have hmb := maxVar_bound l S.vars 200000 hv.2 (fun y hy => by have := hlit y hy; unfold isLit at this; have := of_decide_eq_true this; omega)
  rw [hmv] at hmb
  have HMV := Aside0.mk (show 0 ≤ mv ∧ mv ≤ 1000000000 from ⟨by omega, by omega⟩)
  have HMX := Aside0.mk hmv
  have hmo : S.more l = mo S mv := by rw [← hmv]; rfl
  rw [hmo] at hR
  have HRE := Aside0.mk hR
  have HMO := Aside0.mk (show Five (mo S mv) n ∧ n ≤ 1000000000 from ⟨⟨h5.i, h5.l, h5.w, h5.a, h5.t⟩, hn⟩)
  have HL2 := Aside0.mk h2
  have HTR := Aside0.mk (show ∀ x ∈ l2, ∃ t, R.truth x = some t from fun x hx => htr x (hm x hx))
  have HXB := Aside0.mk (show ∀ x ∈ l2, -1000000000 ≤ x ∧ x ≤ 1000000000 from fun x hx => by have := hlit x (hm x hx); unfold isLit at this; have := of_decide_eq_true this; omega)
  have HRI := Aside0.mk hri
  have HPUT := Aside0.mk (show ∀ x ∈ l2, R.mayPut x from fun x hx => hput x (hm x hx))
  have HKP := Aside0.mk hkeep
  have HLM := Aside0.mk hl2
  obtain ⟨l3, hl3⟩ : ∃ l3, dlt (fun x => R.truth x == some (-1)) l2 = l3 := ⟨_, rfl⟩
  have HL3 := Aside0.mk hl3
  have hlen3 : l3.length ≤ l2.length := by rw [← hl3]; exact List.length_filter_le _ _
  have HL3B := Aside0.mk (show l3.length ≤ 1000000000 by omega)
  have HS3 := Aside0.mk (show ∀ x ∈ l3, x ∈ l2 from fun x hx => by rw [← hl3] at hx; exact (List.mem_filter.1 hx).1)
  have hd1 : wrap64 (S.added + 1) = S.added + 1 := by unfold wrap64; omega
  have hd2 : (S.added == 100000) = false := beq_eq_false_iff_ne.2 (by omega)
  clear hs hl hlit hC had h5 hn hv hR h2 hm hl2 htr hri hput hkeep hmv hml hmb hmo hl3 hlen3
  go_enter Try.func18, Try.ntmps18
  go_wp2_with (first
    | ((with_reducible refine gate_dst (N := 2) rfl ?_); refine ev_box rfl H0.out (cs := #[.pointer (some ⟨b, 0, none⟩)]) (t := 26) ?hr ?_; (case hr => first | (go_simp; done) | (go_simp; rfl)); intro gs w1_ H1; clear H0; have H0 := Aside0.mk (show St w U w1_ [blk gs #[.pointer (some ⟨b, 0, none⟩)] 26, sol b S, C] from H1); clear H1)
    | ((with_reducible refine gate_dst (N := 3) rfl ?_); refine ev_box rfl H0.out (cs := #[.slice A l.length c]) (t := 23) ?hr ?_; (case hr => first | (go_simp; done) | (go_simp; rfl)); intro gl w2_ H1; clear H0; have H0 := Aside0.mk (show St w U w2_ [blk gl #[.slice A l.length c] 23, blk gs #[.pointer (some ⟨b, 0, none⟩)] 26, sol b S, C] from H1); clear H1; have cl := H0.out.cell (i := 0) rfl; have cs := H0.out.cell (i := 1) rfl)
    | (go_at_call 23; (with_reducible refine (cf_Add1 (fun x => !isLit x) A c l _ ?sr HLN.out ?sc).mono ?_); (case sr => exact H0.out.lets (i := 3) rfl HC.out); (case sc => exact fun x hx W hb => (q_Add1 x W).mono fun e w' h => ⟨h.1, h.2 ▸ Below.refl _ _⟩); rintro e w3_ ⟨rfl, hB⟩; have H1 := H0.out.quiet hB; clear H0 hB cl cs; obtain ⟨r, h2⟩ := st_open ((show St w U w3_ [blk gl #[.slice A l.length c] 23, blk gs #[.pointer (some ⟨b, 0, none⟩)] 26, sol b S, C] from H1).perm (perm_idx [2, 0, 1, 3] (by rfl) rfl)); obtain ⟨A0, c0, gw, A3, c3, A4, c4, A5, c5, A6, c6, A7, c7, A9, c9, A10, c10⟩ := r; have cS := h2.cell (i := 0) rfl; dsimp only [cells] at cS; have H := Aside0.mk (show St w U w3_ [blk b #[.slice A0 S.l.length c0, .int .i64 S.added, .map (some gw), .slice A3 S.is.length c3, .slice A4 S.level.length c4, .slice A5 S.why.length c5, .slice A6 S.act.length c6, .slice A7 S.last.length c7, .int .i64 S.bump, .slice A9 S.trail.length c9, .slice A10 S.starts.length c10, .int .i64 S.next, .int .i64 S.vars, .bool S.nothing] 50, ir A3 S.is.length c3 S.is, ir A4 S.level.length c4 S.level, ir A5 S.why.length c5 S.why, ir A6 S.act.length c6 S.act, ir A7 S.last.length c7 S.last, ir A9 S.trail.length c9 S.trail, ir A10 S.starts.length c10 S.starts, rr A0 S.l.length c0 (S.l.map .own), wm gw (ownE S.watch), blk gl #[.slice A l.length c] 23, blk gs #[.pointer (some ⟨b, 0, none⟩)] 26, C] from h2); clear h2 H1; rw [HAN.out]; have fS := H.out.frz (i := 0) rfl; have cl := H.out.cell (i := 10) rfl; have cs := H.out.cell (i := 11) rfl)
    | ((with_reducible refine gate_store (t := 3) (p := 24) (v := .tmp 22) rfl ?_); refine ev_store rfl H.out (i := 0) rfl 1 (.int .i64 (S.added + 1)) rfl ?hr ?_; (case hr => first | (go_simp; done) | (go_simp; rfl)); intro w4_ H1; clear H cS fS cl cs; have H := Aside0.mk (show St w U w4_ [blk b #[.slice A0 S.l.length c0, .int .i64 (S.added + 1), .map (some gw), .slice A3 S.is.length c3, .slice A4 S.level.length c4, .slice A5 S.why.length c5, .slice A6 S.act.length c6, .slice A7 S.last.length c7, .int .i64 S.bump, .slice A9 S.trail.length c9, .slice A10 S.starts.length c10, .int .i64 S.next, .int .i64 S.vars, .bool S.nothing] 50, ir A3 S.is.length c3 S.is, ir A4 S.level.length c4 S.level, ir A5 S.why.length c5 S.why, ir A6 S.act.length c6 S.act, ir A7 S.last.length c7 S.last, ir A9 S.trail.length c9 S.trail, ir A10 S.starts.length c10 S.starts, rr A0 S.l.length c0 (S.l.map .own), wm gw (ownE S.watch), blk gl #[.slice A l.length c] 23, blk gs #[.pointer (some ⟨b, 0, none⟩)] 26, C] from H1); clear H1; have cl := H.out.cell (i := 10) rfl))
  have H0 := Aside0.mk (show St w U w4_ [blk gl #[.slice A l.length c] 23, blk gs #[.pointer (some ⟨b, 0, none⟩)] 26, sol b (mo S (maxVar (l.take 0) S.vars)), C] from (st_shut (S := mo S S.vars) ⟨A0, c0, gw, A3, c3, A4, c4, A5, c5, A6, c6, A7, c7, A9, c9, A10, c10⟩ H.out).perm (perm_idx [1, 2, 0, 3] (by rfl) rfl))
  clear H cl hd1 hd2
  go_loopg [27] (l.length + 1) (fun kq v27 wr => ∃ i : Nat, v27 = .int .i64 (i : Int) ∧ Aside0 (i ≤ l.length) ∧ Aside0 (l.length - i < kq) ∧ Aside0 (St w U wr [blk gl #[.slice A l.length c] 23, blk gs #[.pointer (some ⟨b, 0, none⟩)] 26, sol b (mo S (maxVar (l.take i) S.vars)), C]))
  case atStart => exact ⟨0, rfl, ⟨Nat.zero_le _⟩, ⟨by omega⟩, H0⟩
  case round =>
    clear H0
    obtain ⟨i, rfl, HI, HQ, H0⟩ := hrel
    cases gk with
    | zero => exact absurd HQ.out (by have := HI.out; omega)
    | succ k1 =>
    by_cases hi : i < l.length
    case pos =>
      obtain ⟨x, hx⟩ : ∃ x, l[i]? = some x := ⟨_, List.getElem?_eq_getElem hi⟩
      obtain ⟨ad, rfl, zx⟩ := (H0.out.lets (i := 3) rfl HC.out) _ _ hx
      have hal := HLN.out
      have d1 : decide (i < l.length) = true := decide_eq_true hi
      have d2 : decide ((i : Int) < (l.length : Int)) = true := decide_eq_true (by omega)
      have p1 : (0 ≤ (i : Int)) = True := eq_true (by omega)
      have p2 : ((i : Int) < (l.length : Int)) = True := eq_true (by omega)
      have p3 : (i < l.length) = True := eq_true hi
      have p4 : wrap64 ((i : Int) + 1) = (i : Int) + 1 := by unfold wrap64; omega
      have hxl := HLT.out x (List.mem_of_getElem? hx)
      unfold isLit at hxl
      have hxl := of_decide_eq_true hxl
      obtain ⟨vn, hvn⟩ : ∃ vn, vn = x.natAbs := ⟨_, rfl⟩
      have HVN := Aside0.mk (show vab x = (vn : Int) by unfold vab; rw [hvn])
      have HXB := Aside0.mk (show -1000000000 ≤ x ∧ x ≤ 1000000000 by omega)
      have hst : maxVar (l.take (i + 1)) S.vars = max (maxVar (l.take i) S.vars) (vn : Int) := by
        rw [List.take_succ_eq_append_getElem hi]
        unfold maxVar
        rw [List.foldl_append, (List.getElem?_eq_some_iff.1 hx).2, hvn]
        rfl
      have HST := Aside0.mk hst
      have HI2 := Aside0.mk hi
      generalize maxVar (l.take i) S.vars = mc at *
      obtain ⟨r, h2⟩ := st_open (H0.out.perm (perm_idx [2, 0, 1, 3] (by rfl) rfl))
      obtain ⟨A0, c0, gw, A3, c3, A4, c4, A5, c5, A6, c6, A7, c7, A9, c9, A10, c10⟩ := r
      have cS := h2.cell (i := 0) rfl
      dsimp only [cells] at cS
      have H := Aside0.mk (show St w U wr [blk b #[.slice A0 (mo S mc).l.length c0, .int .i64 (mo S mc).added, .map (some gw), .slice A3 (mo S mc).is.length c3, .slice A4 (mo S mc).level.length c4, .slice A5 (mo S mc).why.length c5, .slice A6 (mo S mc).act.length c6, .slice A7 (mo S mc).last.length c7, .int .i64 (mo S mc).bump, .slice A9 (mo S mc).trail.length c9, .slice A10 (mo S mc).starts.length c10, .int .i64 (mo S mc).next, .int .i64 mc, .bool (mo S mc).nothing] 50, ir A3 (mo S mc).is.length c3 (mo S mc).is, ir A4 (mo S mc).level.length c4 (mo S mc).level, ir A5 (mo S mc).why.length c5 (mo S mc).why, ir A6 (mo S mc).act.length c6 (mo S mc).act, ir A7 (mo S mc).last.length c7 (mo S mc).last, ir A9 (mo S mc).trail.length c9 (mo S mc).trail, ir A10 (mo S mc).starts.length c10 (mo S mc).starts, rr A0 (mo S mc).l.length c0 ((mo S mc).l.map .own), wm gw (ownE (mo S mc).watch), blk gl #[.slice (some ad) l.length c] 23, blk gs #[.pointer (some ⟨b, 0, none⟩)] 26, C] from h2)
      have fS := H.out.frz (i := 0) rfl
      have cs := H.out.cell (i := 11) rfl
      clear hi hx hal hxl hvn hst h2 H0
      go_wp2_with fail
      refine start_ (n := 11) (S := fun w' => w' = wr.drew) (ds := [10]) #[false, false, false, false, false, false, false, false, false, false, false] (by kernel_rfl) rfl rfl (rfl) (fun hHeld => ?_)
      refine pure_ (i := 5) (N := some 36) (v := ?_) (a' := ?_) #[false, false, false, false, false, true, false, false, false, false, false] rfl rfl (by kernel_rfl) (fun _ _ _ h => h) (Or.inl ⟨by rfl, ?_⟩) ?_ ?_
      rotate_left
      · intro w'
        go_simp
        with_reducible rfl
      rotate_left
      · simp only [Act.put, List.setIfInBounds_toArray, List.set_cons_zero, List.set_cons_succ, i64_w, i32_w]
        rfl
      refine take_ (i := 0) (N := some 31) (v := ?_) (a' := ?_) #[true, false, false, false, false, true, false, false, false, false, false] rfl rfl (by kernel_rfl) (fun _ _ _ h => h) (Or.inl ⟨by rfl, ?_⟩) hHeld ?_ ?_
      rotate_left
      · intro w' s0
        go_simp
        with_reducible rfl
      rotate_left
      · simp only [Act.put, List.setIfInBounds_toArray, List.set_cons_zero, List.set_cons_succ, i64_w, i32_w]
        rfl
      refine take_ (i := 1) (N := some 32) (v := ?_) (a' := ?_) #[true, true, false, false, false, true, false, false, false, false, false] rfl rfl (by kernel_rfl) (fun _ _ _ h => h) (Or.inl ⟨by rfl, ?_⟩) hHeld ?_ ?_
      rotate_left
      · intro w' s0
        go_simp
        with_reducible rfl
      rotate_left
      · simp only [Act.put, List.setIfInBounds_toArray, List.set_cons_zero, List.set_cons_succ, i64_w, i32_w]
        rfl
      refine pure_ (i := 2) (N := some 33) (v := ?_) (a' := ?_) #[true, true, true, false, false, true, false, false, false, false, false] rfl rfl (by kernel_rfl) (fun _ _ _ h => h) (Or.inl ⟨by rfl, ?_⟩) ?_ ?_
      rotate_left
      · intro w'
        go_simp
        with_reducible rfl
      rotate_left
      · simp only [Act.put, List.setIfInBounds_toArray, List.set_cons_zero, List.set_cons_succ, i64_w, i32_w]
        rfl
      refine pure_ (i := 3) (N := some 34) (v := ?_) (a' := ?_) #[true, true, true, true, false, true, false, false, false, false, false] rfl rfl (by kernel_rfl) (fun _ _ _ h => h) (Or.inl ⟨by rfl, ?_⟩) ?_ ?_
      rotate_left
      · intro w'
        go_simp
        with_reducible rfl
      rotate_left
      · simp only [Act.put, List.setIfInBounds_toArray, List.set_cons_zero, List.set_cons_succ, i64_w, i32_w]
        rfl
      refine take_ (i := 4) (N := some 35) (v := ?_) (a' := ?_) #[true, true, true, true, true, true, false, false, false, false, false] rfl rfl (by kernel_rfl) (fun _ _ _ h => h) (Or.inl ⟨by rfl, ?_⟩) hHeld ?_ ?_
      rotate_left
      · intro w' s0
        go_simp
        with_reducible rfl
      rotate_left
      · simp only [Act.put, List.setIfInBounds_toArray, List.set_cons_zero, List.set_cons_succ, i64_w, i32_w]
        rfl
      refine one_ (i := 6) (N := some 37) #[true, true, true, true, true, true, true, false, false, false, false] rfl rfl (by kernel_rfl) (by decide) (fun K hK => ?_)
      refine goes_ Try.func26 (by kernel_rfl) rfl #[.int .i64 x] (by rfl) rfl rfl (by simp only [List.map_toArray, List.map_cons, List.map_nil]; rfl) ?_
      with_reducible refine (q_varN x vn HVN.out _ HXB.out.1 HXB.out.2).mono ?_
      rintro e w' ⟨rfl, rfl⟩
      refine ⟨_, rfl, ?_⟩
      refine hK.out _ _ (rfl) (fun hHeld => ?_)
      clear hK K
      refine norm_ (a' := ?_) ?_ ?_
      rotate_left
      · show Act.put _ (some 37) _ = _
        simp only [Act.put, List.setIfInBounds_toArray, List.set_cons_zero, List.set_cons_succ, i64_w, i32_w]
        rfl
      refine pure_ (i := 7) (N := some 38) (v := ?_) (a' := ?_) #[true, true, true, true, true, true, true, true, false, false, false] rfl rfl (by kernel_rfl) (fun _ _ _ h => h) (Or.inl ⟨by rfl, ?_⟩) ?_ ?_
      rotate_left
      · intro w'
        go_simp
        with_reducible rfl
      rotate_left
      · simp only [Act.put, List.setIfInBounds_toArray, List.set_cons_zero, List.set_cons_succ, i64_w, i32_w]
        rfl
      refine pure_ (i := 8) (N := some 39) (v := ?_) (a' := ?_) #[true, true, true, true, true, true, true, true, true, false, false] rfl rfl (by kernel_rfl) (fun _ _ _ h => h) (Or.inl ⟨by rfl, ?_⟩) ?_ ?_
      rotate_left
      · intro w'
        go_simp
        with_reducible rfl
      rotate_left
      · simp only [Act.put, List.setIfInBounds_toArray, List.set_cons_zero, List.set_cons_succ, i64_w, i32_w]
        rfl
      refine pure_ (i := 9) (N := some 40) (v := ?_) (a' := ?_) #[true, true, true, true, true, true, true, true, true, true, false] rfl rfl (by kernel_rfl) (fun _ _ _ h => h) (Or.inl ⟨by rfl, ?_⟩) ?_ ?_
      rotate_left
      · intro w'
        go_simp
        with_reducible rfl
      rotate_left
      · simp only [Act.put, List.setIfInBounds_toArray, List.set_cons_zero, List.set_cons_succ, i64_w, i32_w]
        rfl
      refine last_ (i := 10) (N := none) #[true, true, true, true, true, true, true, true, true, true, true] rfl rfl (by kernel_rfl) (by decide) (fun K hK => ?_)
      refine st_store (by rfl) rfl H.out.drew (i := 0) rfl 12 (.int .i64 (max mc (vn : Int))) rfl ?hr ?_
      (case hr => first | (go_simp; done) | (go_simp; rfl))
      intro w5_ H1
      clear H cS fS
      have H := Aside0.mk (show St w U w5_ [blk b #[.slice A0 (mo S mc).l.length c0, .int .i64 (mo S mc).added, .map (some gw), .slice A3 (mo S mc).is.length c3, .slice A4 (mo S mc).level.length c4, .slice A5 (mo S mc).why.length c5, .slice A6 (mo S mc).act.length c6, .slice A7 (mo S mc).last.length c7, .int .i64 (mo S mc).bump, .slice A9 (mo S mc).trail.length c9, .slice A10 (mo S mc).starts.length c10, .int .i64 (mo S mc).next, .int .i64 (max mc (vn : Int)), .bool (mo S mc).nothing] 50, ir A3 (mo S mc).is.length c3 (mo S mc).is, ir A4 (mo S mc).level.length c4 (mo S mc).level, ir A5 (mo S mc).why.length c5 (mo S mc).why, ir A6 (mo S mc).act.length c6 (mo S mc).act, ir A7 (mo S mc).last.length c7 (mo S mc).last, ir A9 (mo S mc).trail.length c9 (mo S mc).trail, ir A10 (mo S mc).starts.length c10 (mo S mc).starts, rr A0 (mo S mc).l.length c0 ((mo S mc).l.map .own), wm gw (ownE (mo S mc).watch), blk gl #[.slice (some ad) l.length c] 23, blk gs #[.pointer (some ⟨b, 0, none⟩)] 26, C] from H1)
      clear H1
      refine hK.out _ _ ?_
      clear hK K
      refine done_ (by kernel_rfl) ?_

      go_wp2_with fail
      go_roundg k1
      case measure => have := HI2.out; have := HQ.out; omega
      case rel => exact ⟨i + 1, by go_num, ⟨HI2.out⟩, ⟨by have := HI2.out; have := HQ.out; omega⟩, ⟨by rw [HST.out]; exact (st_shut (S := mo S (max mc (vn : Int))) ⟨A0, c0, gw, A3, c3, A4, c4, A5, c5, A6, c6, A7, c7, A9, c9, A10, c10⟩ H.out).perm (perm_idx [1, 2, 0, 3] (by rfl) rfl)⟩⟩
    case neg =>
      have hie : i = l.length := by have := HI.out; omega
      subst hie
      have hs := H0.out
      rw [List.take_length, HMX.out] at hs
      have d1 : decide (l.length < l.length) = false := decide_eq_false (by omega)
      have d2 : decide ((l.length : Int) < (l.length : Int)) = false := decide_eq_false (by omega)
      clear H0
      have H0 := Aside0.mk (show St w U wr [blk gl #[.slice A l.length c] 23, blk gs #[.pointer (some ⟨b, 0, none⟩)] 26, sol b (mo S mv), C] from hs)
      obtain ⟨r, h2⟩ := st_open (H0.out.perm (perm_idx [2, 0, 1, 3] (by rfl) rfl))
      obtain ⟨A0, c0, gw, A3, c3, A4, c4, A5, c5, A6, c6, A7, c7, A9, c9, A10, c10⟩ := r
      have cS := h2.cell (i := 0) rfl
      dsimp only [cells] at cS
      have cl := H0.out.cell (i := 0) rfl
      have cs := H0.out.cell (i := 1) rfl
      clear hi HI HQ h2 hs
      go_wp2_with fail
      refine start_ (n := 6) (S := fun w' => w' = wr.drew) (ds := [5]) #[false, false, false, false, false, false] (by kernel_rfl) rfl rfl (rfl) (fun hHeld => ?_)
      refine take_ (i := 0) (N := some 42) (v := ?_) (a' := ?_) #[true, false, false, false, false, false] rfl rfl (by kernel_rfl) (fun _ _ _ h => h) (Or.inl ⟨by rfl, ?_⟩) hHeld ?_ ?_
      rotate_left
      · intro w' s0
        go_simp
        with_reducible rfl
      rotate_left
      · simp only [Act.put, List.setIfInBounds_toArray, List.set_cons_zero, List.set_cons_succ, i64_w, i32_w]
        rfl
      refine take_ (i := 1) (N := some 43) (v := ?_) (a' := ?_) #[true, true, false, false, false, false] rfl rfl (by kernel_rfl) (fun _ _ _ h => h) (Or.inl ⟨by rfl, ?_⟩) hHeld ?_ ?_
      rotate_left
      · intro w' s0
        go_simp
        with_reducible rfl
      rotate_left
      · simp only [Act.put, List.setIfInBounds_toArray, List.set_cons_zero, List.set_cons_succ, i64_w, i32_w]
        rfl
      refine pure_ (i := 2) (N := some 44) (v := ?_) (a' := ?_) #[true, true, true, false, false, false] rfl rfl (by kernel_rfl) (fun _ _ _ h => h) (Or.inl ⟨by rfl, ?_⟩) ?_ ?_
      rotate_left
      · intro w'
        go_simp
        with_reducible rfl
      rotate_left
      · simp only [Act.put, List.setIfInBounds_toArray, List.set_cons_zero, List.set_cons_succ, i64_w, i32_w]
        rfl
      refine pure_ (i := 3) (N := some 45) (v := ?_) (a' := ?_) #[true, true, true, true, false, false] rfl rfl (by kernel_rfl) (fun _ _ _ h => h) (Or.inl ⟨by rfl, ?_⟩) ?_ ?_
      rotate_left
      · intro w'
        go_simp
        with_reducible rfl
      rotate_left
      · simp only [Act.put, List.setIfInBounds_toArray, List.set_cons_zero, List.set_cons_succ, i64_w, i32_w]
        rfl
      refine take_ (i := 4) (N := some 46) (v := ?_) (a' := ?_) #[true, true, true, true, true, false] rfl rfl (by kernel_rfl) (fun _ _ _ h => h) (Or.inl ⟨by rfl, ?_⟩) hHeld ?_ ?_
      rotate_left
      · intro w' s0
        go_simp
        with_reducible rfl
      rotate_left
      · simp only [Act.put, List.setIfInBounds_toArray, List.set_cons_zero, List.set_cons_succ, i64_w, i32_w]
        rfl
      refine last_ (i := 5) (N := some 47) #[true, true, true, true, true, true] rfl rfl (by kernel_rfl) (by decide) (fun K hK => ?_)
      refine goes_ Try.func27 (by kernel_rfl) rfl #[.pointer (some ⟨b, 0, none⟩), .int .i64 mv] (by rfl) rfl rfl (by simp only [List.map_toArray, List.map_cons, List.map_nil]; rfl) ?_
      refine (St.does (L1 := [sol b (mo S mv)]) (L2 := [blk gl #[.slice A l.length c] 23, blk gs #[.pointer (some ⟨b, 0, none⟩)] 26, C]) (H0.out.drew.perm (perm_idx [2, 0, 1, 3] (by rfl) rfl)) (q_room mv HMV.out.1 HMV.out.2 HMO.out.1 HMO.out.2)).mono ?_
      rintro e w6_ ⟨L1', ⟨rfl, rfl⟩, H1⟩
      refine ⟨_, rfl, ?_⟩
      clear H0 cl cs cS
      rw [HRE.out] at H1
      have H0 := Aside0.mk (show St w U w6_ [blk gl #[.slice A l.length c] 23, blk gs #[.pointer (some ⟨b, 0, none⟩)] 26, sol b R, C] from H1.perm (perm_idx [1, 2, 0, 3] (by rfl) rfl))
      clear H1
      have cl := H0.out.cell (i := 0) rfl
      have cs := H0.out.cell (i := 1) rfl
      have fl := H0.out.frz (i := 0) rfl
      refine hK.out _ _ ?_
      clear hK K
      refine norm_ (a' := ?_) ?_ ?_
      rotate_left
      · show Act.put _ (some 47) _ = _
        simp only [Act.put, List.setIfInBounds_toArray, List.set_cons_zero, List.set_cons_succ, i64_w, i32_w]
        rfl
      refine done_ (by kernel_rfl) ?_

      by_cases hany : l2.any (fun x => l2.contains (-x) || R.truth x == some 1) = true
      case pos =>
        have HANY := Aside0.mk hany
        have HAD := Aside0.mk (show R.addTo l2 = R by unfold Sol.addTo; rw [if_pos hany])
        clear hany
        go_wp2_with (first
          | (go_at_call 32; (refine (q_cloneI H0.out (k := 3) rfl HC.out HLN.out).mono ?_); rintro e w7_ ⟨A', c', rfl, H1⟩; clear H0 cl cs fl; have H0 := Aside0.mk (show St w U w7_ [ir A' l.length c' l, blk gl #[.slice A l.length c] 23, blk gs #[.pointer (some ⟨b, 0, none⟩)] 26, sol b R, C] from H1); clear H1; have cl := H0.out.cell (i := 1) rfl; have cs := H0.out.cell (i := 2) rfl; have fl := H0.out.frz (i := 1) rfl)
          | ((with_reducible refine gate_store (t := 23) (p := 3) (v := .tmp 49) rfl ?_); refine ev_store rfl H0.out (i := 1) rfl 0 (.slice A' l.length c') rfl ?hr ?_; (case hr => first | (go_simp; done) | (go_simp; rfl)); intro w8_ H1; clear H0 cl cs fl; have H0 := Aside0.mk (show St w U w8_ [ir A' l.length c' l, blk gl #[.slice A' l.length c'] 23, blk gs #[.pointer (some ⟨b, 0, none⟩)] 26, sol b R, C] from H1); clear H1; have cl := H0.out.cell (i := 1) rfl; have cs := H0.out.cell (i := 2) rfl; have fl := H0.out.frz (i := 1) rfl)
          | (go_at_call 33; (refine (q_sortI H0.out (i := 0) rfl HLN.out).mono ?_); rintro e w9_ ⟨rfl, H1⟩; clear H0 cl cs fl; have H0 := Aside0.mk (show St w U w9_ [ir A' l.length c' (srt l), blk gl #[.slice A' l.length c'] 23, blk gs #[.pointer (some ⟨b, 0, none⟩)] 26, sol b R, C] from H1); clear H1; have cl := H0.out.cell (i := 1) rfl; have cs := H0.out.cell (i := 2) rfl; have fl := H0.out.frz (i := 1) rfl)
          | (go_at_call 34; (refine (q_compactI H0.out (i := 0) rfl HLN.out).mono ?_); rintro e w10_ ⟨rfl, H1⟩; clear H0 cl cs fl; rw [HL2.out] at H1 ⊢; have H0 := Aside0.mk (show St w U w10_ [ir A' l2.length c' l2, blk gl #[.slice A' l.length c'] 23, blk gs #[.pointer (some ⟨b, 0, none⟩)] 26, sol b R, C] from H1); clear H1; have cl := H0.out.cell (i := 1) rfl; have cs := H0.out.cell (i := 2) rfl; have fl := H0.out.frz (i := 1) rfl)
          | ((with_reducible refine gate_store (t := 23) (p := 3) (v := .tmp 53) rfl ?_); refine ev_store rfl H0.out (i := 1) rfl 0 (.slice A' l2.length c') rfl ?hr ?_; (case hr => first | (go_simp; done) | (go_simp; rfl)); intro w11_ H1; clear H0 cl cs fl; have H0 := Aside0.mk (show St w U w11_ [ir A' l2.length c' l2, blk gl #[.slice A' l2.length c'] 23, blk gs #[.pointer (some ⟨b, 0, none⟩)] 26, sol b R, C] from H1); clear H1; have cl := H0.out.cell (i := 1) rfl; have cs := H0.out.cell (i := 2) rfl; have fl := H0.out.frz (i := 1) rfl)
          | (go_at_call 23; (refine (cf_Add2 gl gs (fun x => l2.contains (-x) || R.truth x == some 1) A' c' l2 _ (H0.out.rd (i := 0) rfl) HLM.out (fun x hx W hb => by obtain ⟨t, ht⟩ := HTR.out x hx; refine (q_Add2 ((show St w U W [ir A' l2.length c' l2, blk gl #[.slice A' l2.length c'] 23, blk gs #[.pointer (some ⟨b, 0, none⟩)] 26, sol b R, C] from H0.out.quiet hb).perm (perm_idx [3, 0, 1, 2, 4] (by rfl) rfl)).sep ((show St w U W [ir A' l2.length c' l2, blk gl #[.slice A' l2.length c'] 23, blk gs #[.pointer (some ⟨b, 0, none⟩)] 26, sol b R, C] from H0.out.quiet hb).cell (i := 1) rfl 0) ((show St w U W [ir A' l2.length c' l2, blk gl #[.slice A' l2.length c'] 23, blk gs #[.pointer (some ⟨b, 0, none⟩)] 26, sol b R, C] from H0.out.quiet hb).cell (i := 2) rfl 0) ((show St w U W [ir A' l2.length c' l2, blk gl #[.slice A' l2.length c'] 23, blk gs #[.pointer (some ⟨b, 0, none⟩)] 26, sol b R, C] from H0.out.quiet hb).rdb (i := 0) rfl) HLM.out ht HRI.out (HXB.out x hx)).mono fun e w' h => ⟨?_, h.2 ▸ Below.refl _ _⟩; rw [h.1, ht]; rfl)).mono ?_); rintro e w12_ ⟨rfl, hB⟩; have H1 := H0.out.quiet hB; clear H0 hB cl cs fl; have H0 := Aside0.mk (show St w U w12_ [ir A' l2.length c' l2, blk gl #[.slice A' l2.length c'] 23, blk gs #[.pointer (some ⟨b, 0, none⟩)] 26, sol b R, C] from H1); clear H1; rw [HANY.out]; have cl := H0.out.cell (i := 1) rfl; have cs := H0.out.cell (i := 2) rfl; have fl := H0.out.frz (i := 1) rfl))
        go_ret
        refine ⟨[sol b _, _], ⟨rfl, rfl⟩, ?_⟩
        rw [HAD.out]
        exact H0.out.drop.drop.drop
      case neg =>
        have HANY := Aside0.mk (Bool.eq_false_iff.2 hany)
        have HAD := Aside0.mk (show R.addTo l2 = addRest R l3 by rw [addTo_eq R l2 hany, HL3.out])
        clear hany
        cases l3 with
        | nil =>
          go_wp2_with (first
            | (go_at_call 32; (refine (q_cloneI H0.out (k := 3) rfl HC.out HLN.out).mono ?_); rintro e w7_ ⟨A', c', rfl, H1⟩; clear H0 cl cs fl; have H0 := Aside0.mk (show St w U w7_ [ir A' l.length c' l, blk gl #[.slice A l.length c] 23, blk gs #[.pointer (some ⟨b, 0, none⟩)] 26, sol b R, C] from H1); clear H1; have cl := H0.out.cell (i := 1) rfl; have cs := H0.out.cell (i := 2) rfl; have fl := H0.out.frz (i := 1) rfl)
            | ((with_reducible refine gate_store (t := 23) (p := 3) (v := .tmp 49) rfl ?_); refine ev_store rfl H0.out (i := 1) rfl 0 (.slice A' l.length c') rfl ?hr ?_; (case hr => first | (go_simp; done) | (go_simp; rfl)); intro w8_ H1; clear H0 cl cs fl; have H0 := Aside0.mk (show St w U w8_ [ir A' l.length c' l, blk gl #[.slice A' l.length c'] 23, blk gs #[.pointer (some ⟨b, 0, none⟩)] 26, sol b R, C] from H1); clear H1; have cl := H0.out.cell (i := 1) rfl; have cs := H0.out.cell (i := 2) rfl; have fl := H0.out.frz (i := 1) rfl)
            | (go_at_call 33; (refine (q_sortI H0.out (i := 0) rfl HLN.out).mono ?_); rintro e w9_ ⟨rfl, H1⟩; clear H0 cl cs fl; have H0 := Aside0.mk (show St w U w9_ [ir A' l.length c' (srt l), blk gl #[.slice A' l.length c'] 23, blk gs #[.pointer (some ⟨b, 0, none⟩)] 26, sol b R, C] from H1); clear H1; have cl := H0.out.cell (i := 1) rfl; have cs := H0.out.cell (i := 2) rfl; have fl := H0.out.frz (i := 1) rfl)
            | (go_at_call 34; (refine (q_compactI H0.out (i := 0) rfl HLN.out).mono ?_); rintro e w10_ ⟨rfl, H1⟩; clear H0 cl cs fl; rw [HL2.out] at H1 ⊢; have H0 := Aside0.mk (show St w U w10_ [ir A' l2.length c' l2, blk gl #[.slice A' l.length c'] 23, blk gs #[.pointer (some ⟨b, 0, none⟩)] 26, sol b R, C] from H1); clear H1; have cl := H0.out.cell (i := 1) rfl; have cs := H0.out.cell (i := 2) rfl; have fl := H0.out.frz (i := 1) rfl)
            | ((with_reducible refine gate_store (t := 23) (p := 3) (v := .tmp 53) rfl ?_); refine ev_store rfl H0.out (i := 1) rfl 0 (.slice A' l2.length c') rfl ?hr ?_; (case hr => first | (go_simp; done) | (go_simp; rfl)); intro w11_ H1; clear H0 cl cs fl; have H0 := Aside0.mk (show St w U w11_ [ir A' l2.length c' l2, blk gl #[.slice A' l2.length c'] 23, blk gs #[.pointer (some ⟨b, 0, none⟩)] 26, sol b R, C] from H1); clear H1; have cl := H0.out.cell (i := 1) rfl; have cs := H0.out.cell (i := 2) rfl; have fl := H0.out.frz (i := 1) rfl)
            | (go_at_call 23; (refine (cf_Add2 gl gs (fun x => l2.contains (-x) || R.truth x == some 1) A' c' l2 _ (H0.out.rd (i := 0) rfl) HLM.out (fun x hx W hb => by obtain ⟨t, ht⟩ := HTR.out x hx; refine (q_Add2 ((show St w U W [ir A' l2.length c' l2, blk gl #[.slice A' l2.length c'] 23, blk gs #[.pointer (some ⟨b, 0, none⟩)] 26, sol b R, C] from H0.out.quiet hb).perm (perm_idx [3, 0, 1, 2, 4] (by rfl) rfl)).sep ((show St w U W [ir A' l2.length c' l2, blk gl #[.slice A' l2.length c'] 23, blk gs #[.pointer (some ⟨b, 0, none⟩)] 26, sol b R, C] from H0.out.quiet hb).cell (i := 1) rfl 0) ((show St w U W [ir A' l2.length c' l2, blk gl #[.slice A' l2.length c'] 23, blk gs #[.pointer (some ⟨b, 0, none⟩)] 26, sol b R, C] from H0.out.quiet hb).cell (i := 2) rfl 0) ((show St w U W [ir A' l2.length c' l2, blk gl #[.slice A' l2.length c'] 23, blk gs #[.pointer (some ⟨b, 0, none⟩)] 26, sol b R, C] from H0.out.quiet hb).rdb (i := 0) rfl) HLM.out ht HRI.out (HXB.out x hx)).mono fun e w' h => ⟨?_, h.2 ▸ Below.refl _ _⟩; rw [h.1, ht]; rfl)).mono ?_); rintro e w12_ ⟨rfl, hB⟩; have H1 := H0.out.quiet hB; clear H0 hB cl cs fl; have H0 := Aside0.mk (show St w U w12_ [ir A' l2.length c' l2, blk gl #[.slice A' l2.length c'] 23, blk gs #[.pointer (some ⟨b, 0, none⟩)] 26, sol b R, C] from H1); clear H1; rw [HANY.out]; have cl := H0.out.cell (i := 1) rfl; have cs := H0.out.cell (i := 2) rfl; have fl := H0.out.frz (i := 1) rfl)
            | (go_at_call 38; (refine (q_deleteI (k := 0) (g2 := gs) (fun x => R.truth x == some (-1)) H0.out rfl HLM.out (fun x hx W zs hst => by have hst : St w U W [ir A' l2.length c' zs, blk gl #[.slice A' l2.length c'] 23, blk gs #[.pointer (some ⟨b, 0, none⟩)] 26, sol b R, C] := hst; obtain ⟨t, ht⟩ := HTR.out x hx; refine (q_Add3 (hst.perm (perm_idx [3, 0, 1, 2, 4] (by rfl) rfl)).sep (hst.cell (i := 2) rfl 0) ht HRI.out).mono fun e w' h => ⟨?_, h.2 ▸ Below.refl _ _⟩; rw [h.1, ht]; rfl)).mono ?_); rintro e w13_ ⟨rfl, H1⟩; clear H0 cl cs fl; rw [HL3.out] at H1 ⊢; have H0 := Aside0.mk (show St w U w13_ [ir A' ([] : List Int).length c' [], blk gl #[.slice A' l2.length c'] 23, blk gs #[.pointer (some ⟨b, 0, none⟩)] 26, sol b R, C] from H1); clear H1; have cl := H0.out.cell (i := 1) rfl; have cs := H0.out.cell (i := 2) rfl; have fl := H0.out.frz (i := 1) rfl)
            | ((with_reducible refine gate_store (t := 23) (p := 3) (v := .tmp 59) rfl ?_); refine ev_store rfl H0.out (i := 1) rfl 0 (.slice A' ([] : List Int).length c') rfl ?hr ?_; (case hr => first | (go_simp; done) | (go_simp; rfl)); intro w14_ H1; clear H0 cl cs fl; have H0 := Aside0.mk (show St w U w14_ [ir A' ([] : List Int).length c' [], blk gl #[.slice A' ([] : List Int).length c'] 23, blk gs #[.pointer (some ⟨b, 0, none⟩)] 26, sol b R, C] from H1); clear H1; have cl := H0.out.cell (i := 1) rfl; have cs := H0.out.cell (i := 2) rfl; have fl := H0.out.frz (i := 1) rfl; obtain ⟨r, h2⟩ := st_open (H0.out.perm (perm_idx [3, 0, 1, 2, 4] (by rfl) rfl)); obtain ⟨A0, c0, gw, A3, c3, A4, c4, A5, c5, A6, c6, A7, c7, A9, c9, A10, c10⟩ := r; have cS := h2.cell (i := 0) rfl; dsimp only [cells] at cS; have H := Aside0.mk (show St w U w14_ [blk b #[.slice A0 R.l.length c0, .int .i64 R.added, .map (some gw), .slice A3 R.is.length c3, .slice A4 R.level.length c4, .slice A5 R.why.length c5, .slice A6 R.act.length c6, .slice A7 R.last.length c7, .int .i64 R.bump, .slice A9 R.trail.length c9, .slice A10 R.starts.length c10, .int .i64 R.next, .int .i64 R.vars, .bool R.nothing] 50, ir A3 R.is.length c3 R.is, ir A4 R.level.length c4 R.level, ir A5 R.why.length c5 R.why, ir A6 R.act.length c6 R.act, ir A7 R.last.length c7 R.last, ir A9 R.trail.length c9 R.trail, ir A10 R.starts.length c10 R.starts, rr A0 R.l.length c0 (R.l.map .own), wm gw (ownE R.watch), ir A' ([] : List Int).length c' [], blk gl #[.slice A' ([] : List Int).length c'] 23, blk gs #[.pointer (some ⟨b, 0, none⟩)] 26, C] from h2); clear h2; have fS := H.out.frz (i := 0) rfl)
            | ((with_reducible refine gate_store (t := 4) (p := 69) (v := .const (.bool true)) rfl ?_); refine ev_store rfl H.out (i := 0) rfl 13 (.bool true) rfl ?hr ?_; (case hr => first | (go_simp; done) | (go_simp; rfl)); intro w15_ H1; clear H cS fS; have H := Aside0.mk (show St w U w15_ [blk b #[.slice A0 R.l.length c0, .int .i64 R.added, .map (some gw), .slice A3 R.is.length c3, .slice A4 R.level.length c4, .slice A5 R.why.length c5, .slice A6 R.act.length c6, .slice A7 R.last.length c7, .int .i64 R.bump, .slice A9 R.trail.length c9, .slice A10 R.starts.length c10, .int .i64 R.next, .int .i64 R.vars, .bool true] 50, ir A3 R.is.length c3 R.is, ir A4 R.level.length c4 R.level, ir A5 R.why.length c5 R.why, ir A6 R.act.length c6 R.act, ir A7 R.last.length c7 R.last, ir A9 R.trail.length c9 R.trail, ir A10 R.starts.length c10 R.starts, rr A0 R.l.length c0 (R.l.map .own), wm gw (ownE R.watch), ir A' ([] : List Int).length c' [], blk gl #[.slice A' ([] : List Int).length c'] 23, blk gs #[.pointer (some ⟨b, 0, none⟩)] 26, C] from H1); clear H1))
          go_ret
          refine ⟨[sol b _, _], ⟨rfl, rfl⟩, ?_⟩
          rw [HAD.out]
          exact ((st_shut (S := { R with nothing := true }) ⟨A0, c0, gw, A3, c3, A4, c4, A5, c5, A6, c6, A7, c7, A9, c9, A10, c10⟩ H.out).perm (perm_idx [1, 2, 3, 0, 4] (by rfl) rfl)).drop.drop.drop
        | cons x r =>
        cases r with
        | nil =>
          have hpx := HPUT.out x (HS3.out x List.mem_cons_self)
          have HP := Aside0.mk (show -1000000000 ≤ x ∧ x ≤ 1000000000 ∧ x.natAbs < R.is.length ∧ x.natAbs < R.level.length ∧ x.natAbs < R.why.length ∧ R.trail.length ≤ 1000000000 from ⟨by have := hpx.2.2.2.2; omega, by have := hpx.2.2.2.2; omega, hpx.1, hpx.2.1, hpx.2.2.1, hpx.2.2.2.1⟩)
          clear hpx
          go_wp2_with (first
            | (go_at_call 32; (refine (q_cloneI H0.out (k := 3) rfl HC.out HLN.out).mono ?_); rintro e w7_ ⟨A', c', rfl, H1⟩; clear H0 cl cs fl; have H0 := Aside0.mk (show St w U w7_ [ir A' l.length c' l, blk gl #[.slice A l.length c] 23, blk gs #[.pointer (some ⟨b, 0, none⟩)] 26, sol b R, C] from H1); clear H1; have cl := H0.out.cell (i := 1) rfl; have cs := H0.out.cell (i := 2) rfl; have fl := H0.out.frz (i := 1) rfl)
            | ((with_reducible refine gate_store (t := 23) (p := 3) (v := .tmp 49) rfl ?_); refine ev_store rfl H0.out (i := 1) rfl 0 (.slice A' l.length c') rfl ?hr ?_; (case hr => first | (go_simp; done) | (go_simp; rfl)); intro w8_ H1; clear H0 cl cs fl; have H0 := Aside0.mk (show St w U w8_ [ir A' l.length c' l, blk gl #[.slice A' l.length c'] 23, blk gs #[.pointer (some ⟨b, 0, none⟩)] 26, sol b R, C] from H1); clear H1; have cl := H0.out.cell (i := 1) rfl; have cs := H0.out.cell (i := 2) rfl; have fl := H0.out.frz (i := 1) rfl)
            | (go_at_call 33; (refine (q_sortI H0.out (i := 0) rfl HLN.out).mono ?_); rintro e w9_ ⟨rfl, H1⟩; clear H0 cl cs fl; have H0 := Aside0.mk (show St w U w9_ [ir A' l.length c' (srt l), blk gl #[.slice A' l.length c'] 23, blk gs #[.pointer (some ⟨b, 0, none⟩)] 26, sol b R, C] from H1); clear H1; have cl := H0.out.cell (i := 1) rfl; have cs := H0.out.cell (i := 2) rfl; have fl := H0.out.frz (i := 1) rfl)
            | (go_at_call 34; (refine (q_compactI H0.out (i := 0) rfl HLN.out).mono ?_); rintro e w10_ ⟨rfl, H1⟩; clear H0 cl cs fl; rw [HL2.out] at H1 ⊢; have H0 := Aside0.mk (show St w U w10_ [ir A' l2.length c' l2, blk gl #[.slice A' l.length c'] 23, blk gs #[.pointer (some ⟨b, 0, none⟩)] 26, sol b R, C] from H1); clear H1; have cl := H0.out.cell (i := 1) rfl; have cs := H0.out.cell (i := 2) rfl; have fl := H0.out.frz (i := 1) rfl)
            | ((with_reducible refine gate_store (t := 23) (p := 3) (v := .tmp 53) rfl ?_); refine ev_store rfl H0.out (i := 1) rfl 0 (.slice A' l2.length c') rfl ?hr ?_; (case hr => first | (go_simp; done) | (go_simp; rfl)); intro w11_ H1; clear H0 cl cs fl; have H0 := Aside0.mk (show St w U w11_ [ir A' l2.length c' l2, blk gl #[.slice A' l2.length c'] 23, blk gs #[.pointer (some ⟨b, 0, none⟩)] 26, sol b R, C] from H1); clear H1; have cl := H0.out.cell (i := 1) rfl; have cs := H0.out.cell (i := 2) rfl; have fl := H0.out.frz (i := 1) rfl)
            | (go_at_call 23; (refine (cf_Add2 gl gs (fun x => l2.contains (-x) || R.truth x == some 1) A' c' l2 _ (H0.out.rd (i := 0) rfl) HLM.out (fun x hx W hb => by obtain ⟨t, ht⟩ := HTR.out x hx; refine (q_Add2 ((show St w U W [ir A' l2.length c' l2, blk gl #[.slice A' l2.length c'] 23, blk gs #[.pointer (some ⟨b, 0, none⟩)] 26, sol b R, C] from H0.out.quiet hb).perm (perm_idx [3, 0, 1, 2, 4] (by rfl) rfl)).sep ((show St w U W [ir A' l2.length c' l2, blk gl #[.slice A' l2.length c'] 23, blk gs #[.pointer (some ⟨b, 0, none⟩)] 26, sol b R, C] from H0.out.quiet hb).cell (i := 1) rfl 0) ((show St w U W [ir A' l2.length c' l2, blk gl #[.slice A' l2.length c'] 23, blk gs #[.pointer (some ⟨b, 0, none⟩)] 26, sol b R, C] from H0.out.quiet hb).cell (i := 2) rfl 0) ((show St w U W [ir A' l2.length c' l2, blk gl #[.slice A' l2.length c'] 23, blk gs #[.pointer (some ⟨b, 0, none⟩)] 26, sol b R, C] from H0.out.quiet hb).rdb (i := 0) rfl) HLM.out ht HRI.out (HXB.out x hx)).mono fun e w' h => ⟨?_, h.2 ▸ Below.refl _ _⟩; rw [h.1, ht]; rfl)).mono ?_); rintro e w12_ ⟨rfl, hB⟩; have H1 := H0.out.quiet hB; clear H0 hB cl cs fl; have H0 := Aside0.mk (show St w U w12_ [ir A' l2.length c' l2, blk gl #[.slice A' l2.length c'] 23, blk gs #[.pointer (some ⟨b, 0, none⟩)] 26, sol b R, C] from H1); clear H1; rw [HANY.out]; have cl := H0.out.cell (i := 1) rfl; have cs := H0.out.cell (i := 2) rfl; have fl := H0.out.frz (i := 1) rfl)
            | (go_at_call 38; (refine (q_deleteI (k := 0) (g2 := gs) (fun x => R.truth x == some (-1)) H0.out rfl HLM.out (fun x hx W zs hst => by have hst : St w U W [ir A' l2.length c' zs, blk gl #[.slice A' l2.length c'] 23, blk gs #[.pointer (some ⟨b, 0, none⟩)] 26, sol b R, C] := hst; obtain ⟨t, ht⟩ := HTR.out x hx; refine (q_Add3 (hst.perm (perm_idx [3, 0, 1, 2, 4] (by rfl) rfl)).sep (hst.cell (i := 2) rfl 0) ht HRI.out).mono fun e w' h => ⟨?_, h.2 ▸ Below.refl _ _⟩; rw [h.1, ht]; rfl)).mono ?_); rintro e w13_ ⟨rfl, H1⟩; clear H0 cl cs fl; rw [HL3.out] at H1 ⊢; have H0 := Aside0.mk (show St w U w13_ [ir A' [x].length c' [x], blk gl #[.slice A' l2.length c'] 23, blk gs #[.pointer (some ⟨b, 0, none⟩)] 26, sol b R, C] from H1); clear H1; have cl := H0.out.cell (i := 1) rfl; have cs := H0.out.cell (i := 2) rfl; have fl := H0.out.frz (i := 1) rfl)
            | ((with_reducible refine gate_store (t := 23) (p := 3) (v := .tmp 59) rfl ?_); refine ev_store rfl H0.out (i := 1) rfl 0 (.slice A' [x].length c') rfl ?hr ?_; (case hr => first | (go_simp; done) | (go_simp; rfl)); intro w14_ H1; clear H0 cl cs fl; have H0 := Aside0.mk (show St w U w14_ [ir A' [x].length c' [x], blk gl #[.slice A' [x].length c'] 23, blk gs #[.pointer (some ⟨b, 0, none⟩)] 26, sol b R, C] from H1); clear H1; have cl := H0.out.cell (i := 1) rfl; have cs := H0.out.cell (i := 2) rfl; have fl := H0.out.frz (i := 1) rfl))
          obtain ⟨ga, rfl⟩ := H0.out.ir_some (i := 0) rfl (by rw [List.length_cons]; omega)
          have z0 := H0.out.ir_cell (i := 0) (j := 0) (x := x) rfl rfl
          refine start_ (n := 5) (S := fun w' => w' = w14_.drew) (ds := [4]) #[false, false, false, false, false] (by kernel_rfl) rfl rfl (rfl) (fun hHeld => ?_)
          refine take_ (i := 0) (N := some 72) (v := ?_) (a' := ?_) #[true, false, false, false, false] rfl rfl (by kernel_rfl) (fun _ _ _ h => h) (Or.inl ⟨by rfl, ?_⟩) hHeld ?_ ?_
          rotate_left
          · intro w' s0
            go_simp
            with_reducible rfl
          rotate_left
          · simp only [Act.put, List.setIfInBounds_toArray, List.set_cons_zero, List.set_cons_succ, i64_w, i32_w]
            rfl
          refine take_ (i := 1) (N := some 73) (v := ?_) (a' := ?_) #[true, true, false, false, false] rfl rfl (by kernel_rfl) (fun _ _ _ h => h) (Or.inl ⟨by rfl, ?_⟩) hHeld ?_ ?_
          rotate_left
          · intro w' s0
            go_simp
            with_reducible rfl
          rotate_left
          · simp only [Act.put, List.setIfInBounds_toArray, List.set_cons_zero, List.set_cons_succ, i64_w, i32_w]
            rfl
          refine pure_ (i := 2) (N := some 74) (v := ?_) (a' := ?_) #[true, true, true, false, false] rfl rfl (by kernel_rfl) (fun _ _ _ h => h) (Or.inl ⟨by rfl, ?_⟩) ?_ ?_
          rotate_left
          · intro w'
            go_simp
            with_reducible rfl
          rotate_left
          · simp only [Act.put, List.setIfInBounds_toArray, List.set_cons_zero, List.set_cons_succ, i64_w, i32_w]
            rfl
          refine take_ (i := 3) (N := some 75) (v := ?_) (a' := ?_) #[true, true, true, true, false] rfl rfl (by kernel_rfl) (fun _ _ _ h => h) (Or.inl ⟨by rfl, ?_⟩) hHeld ?_ ?_
          rotate_left
          · intro w' s0
            go_simp
            with_reducible rfl
          rotate_left
          · simp only [Act.put, List.setIfInBounds_toArray, List.set_cons_zero, List.set_cons_succ, i64_w, i32_w]
            rfl
          refine last_ (i := 4) (N := some 76) #[true, true, true, true, true] rfl rfl (by kernel_rfl) (by decide) (fun K hK => ?_)
          refine goes_ Try.func40 (by kernel_rfl) rfl #[.pointer (some ⟨b, 0, none⟩), .int .i64 x, .int .i64 (-1)] (by rfl) rfl rfl (by simp only [List.map_toArray, List.map_cons, List.map_nil]; rfl) ?_
          refine (St.does (L1 := [sol b R]) (L2 := [ir (some ⟨ga, 0, none⟩) [x].length c' [x], blk gl #[.slice (some ⟨ga, 0, none⟩) [x].length c'] 23, blk gs #[.pointer (some ⟨b, 0, none⟩)] 26, C]) (H0.out.drew.perm (perm_idx [3, 0, 1, 2, 4] (by rfl) rfl)) (q_put x (-1) HP.out.1 HP.out.2.1 HP.out.2.2.1 HP.out.2.2.2.1 HP.out.2.2.2.2.1 HP.out.2.2.2.2.2)).mono ?_
          rintro e w16_ ⟨L1', ⟨rfl, rfl⟩, H1⟩
          refine ⟨_, rfl, ?_⟩
          clear H0 cl cs fl z0
          refine hK.out _ _ ?_
          clear hK K
          refine norm_ (a' := ?_) ?_ ?_
          rotate_left
          · show Act.put _ (some 76) _ = _
            simp only [Act.put, List.setIfInBounds_toArray, List.set_cons_zero, List.set_cons_succ, i64_w, i32_w]
            rfl
          refine done_ (by kernel_rfl) ?_

          go_wp2_with fail
          go_ret
          refine ⟨[sol b _, _], ⟨rfl, rfl⟩, ?_⟩
          rw [HAD.out]
          exact (H1.perm (perm_idx [1, 2, 3, 0, 4] (by rfl) rfl)).drop.drop.drop
        | cons y r =>
          have HTW := Aside0.mk (show 2 ≤ (x :: y :: r).length by rw [List.length_cons, List.length_cons]; omega)
          go_wp2_with (first
            | (go_at_call 32; (refine (q_cloneI H0.out (k := 3) rfl HC.out HLN.out).mono ?_); rintro e w7_ ⟨A', c', rfl, H1⟩; clear H0 cl cs fl; have H0 := Aside0.mk (show St w U w7_ [ir A' l.length c' l, blk gl #[.slice A l.length c] 23, blk gs #[.pointer (some ⟨b, 0, none⟩)] 26, sol b R, C] from H1); clear H1; have cl := H0.out.cell (i := 1) rfl; have cs := H0.out.cell (i := 2) rfl; have fl := H0.out.frz (i := 1) rfl)
            | ((with_reducible refine gate_store (t := 23) (p := 3) (v := .tmp 49) rfl ?_); refine ev_store rfl H0.out (i := 1) rfl 0 (.slice A' l.length c') rfl ?hr ?_; (case hr => first | (go_simp; done) | (go_simp; rfl)); intro w8_ H1; clear H0 cl cs fl; have H0 := Aside0.mk (show St w U w8_ [ir A' l.length c' l, blk gl #[.slice A' l.length c'] 23, blk gs #[.pointer (some ⟨b, 0, none⟩)] 26, sol b R, C] from H1); clear H1; have cl := H0.out.cell (i := 1) rfl; have cs := H0.out.cell (i := 2) rfl; have fl := H0.out.frz (i := 1) rfl)
            | (go_at_call 33; (refine (q_sortI H0.out (i := 0) rfl HLN.out).mono ?_); rintro e w9_ ⟨rfl, H1⟩; clear H0 cl cs fl; have H0 := Aside0.mk (show St w U w9_ [ir A' l.length c' (srt l), blk gl #[.slice A' l.length c'] 23, blk gs #[.pointer (some ⟨b, 0, none⟩)] 26, sol b R, C] from H1); clear H1; have cl := H0.out.cell (i := 1) rfl; have cs := H0.out.cell (i := 2) rfl; have fl := H0.out.frz (i := 1) rfl)
            | (go_at_call 34; (refine (q_compactI H0.out (i := 0) rfl HLN.out).mono ?_); rintro e w10_ ⟨rfl, H1⟩; clear H0 cl cs fl; rw [HL2.out] at H1 ⊢; have H0 := Aside0.mk (show St w U w10_ [ir A' l2.length c' l2, blk gl #[.slice A' l.length c'] 23, blk gs #[.pointer (some ⟨b, 0, none⟩)] 26, sol b R, C] from H1); clear H1; have cl := H0.out.cell (i := 1) rfl; have cs := H0.out.cell (i := 2) rfl; have fl := H0.out.frz (i := 1) rfl)
            | ((with_reducible refine gate_store (t := 23) (p := 3) (v := .tmp 53) rfl ?_); refine ev_store rfl H0.out (i := 1) rfl 0 (.slice A' l2.length c') rfl ?hr ?_; (case hr => first | (go_simp; done) | (go_simp; rfl)); intro w11_ H1; clear H0 cl cs fl; have H0 := Aside0.mk (show St w U w11_ [ir A' l2.length c' l2, blk gl #[.slice A' l2.length c'] 23, blk gs #[.pointer (some ⟨b, 0, none⟩)] 26, sol b R, C] from H1); clear H1; have cl := H0.out.cell (i := 1) rfl; have cs := H0.out.cell (i := 2) rfl; have fl := H0.out.frz (i := 1) rfl)
            | (go_at_call 23; (refine (cf_Add2 gl gs (fun x => l2.contains (-x) || R.truth x == some 1) A' c' l2 _ (H0.out.rd (i := 0) rfl) HLM.out (fun x hx W hb => by obtain ⟨t, ht⟩ := HTR.out x hx; refine (q_Add2 ((show St w U W [ir A' l2.length c' l2, blk gl #[.slice A' l2.length c'] 23, blk gs #[.pointer (some ⟨b, 0, none⟩)] 26, sol b R, C] from H0.out.quiet hb).perm (perm_idx [3, 0, 1, 2, 4] (by rfl) rfl)).sep ((show St w U W [ir A' l2.length c' l2, blk gl #[.slice A' l2.length c'] 23, blk gs #[.pointer (some ⟨b, 0, none⟩)] 26, sol b R, C] from H0.out.quiet hb).cell (i := 1) rfl 0) ((show St w U W [ir A' l2.length c' l2, blk gl #[.slice A' l2.length c'] 23, blk gs #[.pointer (some ⟨b, 0, none⟩)] 26, sol b R, C] from H0.out.quiet hb).cell (i := 2) rfl 0) ((show St w U W [ir A' l2.length c' l2, blk gl #[.slice A' l2.length c'] 23, blk gs #[.pointer (some ⟨b, 0, none⟩)] 26, sol b R, C] from H0.out.quiet hb).rdb (i := 0) rfl) HLM.out ht HRI.out (HXB.out x hx)).mono fun e w' h => ⟨?_, h.2 ▸ Below.refl _ _⟩; rw [h.1, ht]; rfl)).mono ?_); rintro e w12_ ⟨rfl, hB⟩; have H1 := H0.out.quiet hB; clear H0 hB cl cs fl; have H0 := Aside0.mk (show St w U w12_ [ir A' l2.length c' l2, blk gl #[.slice A' l2.length c'] 23, blk gs #[.pointer (some ⟨b, 0, none⟩)] 26, sol b R, C] from H1); clear H1; rw [HANY.out]; have cl := H0.out.cell (i := 1) rfl; have cs := H0.out.cell (i := 2) rfl; have fl := H0.out.frz (i := 1) rfl)
            | (go_at_call 38; (refine (q_deleteI (k := 0) (g2 := gs) (fun x => R.truth x == some (-1)) H0.out rfl HLM.out (fun x hx W zs hst => by have hst : St w U W [ir A' l2.length c' zs, blk gl #[.slice A' l2.length c'] 23, blk gs #[.pointer (some ⟨b, 0, none⟩)] 26, sol b R, C] := hst; obtain ⟨t, ht⟩ := HTR.out x hx; refine (q_Add3 (hst.perm (perm_idx [3, 0, 1, 2, 4] (by rfl) rfl)).sep (hst.cell (i := 2) rfl 0) ht HRI.out).mono fun e w' h => ⟨?_, h.2 ▸ Below.refl _ _⟩; rw [h.1, ht]; rfl)).mono ?_); rintro e w13_ ⟨rfl, H1⟩; clear H0 cl cs fl; rw [HL3.out] at H1 ⊢; have H0 := Aside0.mk (show St w U w13_ [ir A' (x :: y :: r).length c' (x :: y :: r), blk gl #[.slice A' l2.length c'] 23, blk gs #[.pointer (some ⟨b, 0, none⟩)] 26, sol b R, C] from H1); clear H1; have cl := H0.out.cell (i := 1) rfl; have cs := H0.out.cell (i := 2) rfl; have fl := H0.out.frz (i := 1) rfl)
            | ((with_reducible refine gate_store (t := 23) (p := 3) (v := .tmp 59) rfl ?_); refine ev_store rfl H0.out (i := 1) rfl 0 (.slice A' (x :: y :: r).length c') rfl ?hr ?_; (case hr => first | (go_simp; done) | (go_simp; rfl)); intro w14_ H1; clear H0 cl cs fl; have H0 := Aside0.mk (show St w U w14_ [ir A' (x :: y :: r).length c' (x :: y :: r), blk gl #[.slice A' (x :: y :: r).length c'] 23, blk gs #[.pointer (some ⟨b, 0, none⟩)] 26, sol b R, C] from H1); clear H1; have cl := H0.out.cell (i := 1) rfl; have cs := H0.out.cell (i := 2) rfl; have fl := H0.out.frz (i := 1) rfl)
            | (go_at_call 41; (refine (St.does (L1 := [sol b R, ir A' (x :: y :: r).length c' (x :: y :: r)]) (L2 := [blk gl #[.slice A' (x :: y :: r).length c'] 23, blk gs #[.pointer (some ⟨b, 0, none⟩)] 26, C]) (H0.out.perm (perm_idx [3, 0, 1, 2, 4] (by rfl) rfl)) (q_keep HTW.out HKP.out.1 HKP.out.2)).mono ?_); rintro e w16_ ⟨L1', ⟨rfl, rfl⟩, H1⟩; clear H0 cl cs fl))
          go_ret
          refine ⟨[sol b _, _], ⟨rfl, rfl⟩, ?_⟩
          rw [HAD.out]
          exact (H1.perm (perm_idx [1, 2, 0, 3] (by rfl) rfl)).drop.drop
end Go.Proofs.Ytckimhhncpnkpaa.H
/- The reference: Literals, Fits, All. -/
namespace Go.Proofs.Ytckimhhncpnkpaa.H
set_option linter.unusedSimpArgs false
set_option linter.unusedVariables false
open Go.RowKit Go.Proofs.YtckimhhncpnkpaaW.PrintWords Go.Proofs.YtckimhhncpnkpaaW.PrintLast Go.Proofs.YtckimhhncpnkpaaW.PrintMore Go.Proofs.Ytckimhhncpnkpaa.Sep Go.Proofs.Ytckimhhncpnkpaa.Sat
/-- A row of truths, read. -/
def Rb (w : World) (A : Option Addr) (l : List Bool) : Prop := ∀ (j : Nat) (x : Bool), l[j]? = some x → ∃ ad, A = some ad ∧ w.cell? (ad.add j) = some (.bool x)
theorem Rb.below {w w' : World} {A : Option Addr} {l : List Bool} (h : Rb w A l) (hb : Below w.heap.size w w') : Rb w' A l := fun j x hx => by
  obtain ⟨g, e, hc⟩ := h j x hx
  exact ⟨g, e, (hb.cell (World.block_lt_of_cell? w _ hc)).trans hc⟩
/-- Slices, each one's row read. -/
structure RV (w : World) (vs : List Value) (ls : List (List Int)) : Prop where
  len : vs.length = ls.length
  at_ : ∀ (j : Nat) (l : List Int), ls[j]? = some l → ∃ B c, vs[j]? = some (.slice B l.length c) ∧ Rd w B l
theorem RV.below {w w' : World} {vs : List Value} {ls : List (List Int)} (h : RV w vs ls) (hb : Below w.heap.size w w') : RV w' vs ls := ⟨h.len, fun j l hl => by
  obtain ⟨B, c, h1, h2⟩ := h.at_ j l hl
  exact ⟨B, c, h1, h2.below hb⟩⟩
/-- A row of slices, read. -/
structure RR (w : World) (A : Option Addr) (vs : List Value) (ls : List (List Int)) : Prop where
  cells : ∀ (j : Nat) (v : Value), vs[j]? = some v → ∃ ad, A = some ad ∧ w.cell? (ad.add j) = some v
  rv : RV w vs ls
theorem RR.below {w w' : World} {A : Option Addr} {vs : List Value} {ls : List (List Int)} (h : RR w A vs ls) (hb : Below w.heap.size w w') : RR w' A vs ls := ⟨fun j v hv => by
  obtain ⟨g, e, hc⟩ := h.cells j v hv
  exact ⟨g, e, (hb.cell (World.block_lt_of_cell? w _ hc)).trans hc⟩, h.rv.below hb⟩
theorem RR.get {w : World} {A : Option Addr} {vs : List Value} {ls : List (List Int)} (h : RR w A vs ls) {j : Nat} {l : List Int} (hl : ls[j]? = some l) : ∃ ad B c, A = some ad ∧ w.cell? (ad.add j) = some (.slice B l.length c) ∧ Rd w B l := by
  obtain ⟨B, c, h1, h2⟩ := h.rv.at_ j l hl
  obtain ⟨ad, e, hc⟩ := h.cells j _ h1
  exact ⟨ad, B, c, e, hc, h2⟩
theorem isLit_iff {x : Int} : isLit x = true ↔ x ≠ 0 ∧ x ≤ 200000 ∧ -200000 ≤ x := by unfold isLit; rw [decide_eq_true_iff]
theorem all_take_snoc {α : Type} {p : α → Bool} {l : List α} {i : Nat} {x : α} (h : l[i]? = some x) (ha : (l.take i).all p = true) (hx : p x = true) : (l.take (i + 1)).all p = true := by
  rw [List.take_succ_eq_append_getElem (List.getElem?_eq_some_iff.1 h).1, List.all_append, ha, (List.getElem?_eq_some_iff.1 h).2]
  simp [hx]
theorem all_false {α : Type} {p : α → Bool} {l : List α} {i : Nat} {x : α} (h : l[i]? = some x) (hx : p x = false) : l.all p = false := by
  rw [List.all_eq_false]
  exact ⟨x, List.mem_of_getElem? h, by rw [hx]; decide⟩
set_option maxHeartbeats 4000000 in
set_option maxRecDepth 100000 in
theorem q_LiteralsW {w : World} {A : Option Addr} {c : Nat} {l : List Int} (hr : Rd w A l) (hl : l.length ≤ 9223372036854775807) :
    Calls Try.prog 11 #[.slice A l.length c] w fun e w' => e = .returned (.bool (l.all isLit)) ∧ Below w.heap.size w w' := by
  have HR := Aside0.mk hr
  have HL := Aside0.mk hl
  clear hr hl
  have H0 := Aside0.mk (show St w (fun k => w.heap.size ≤ k) w [] from ⟨Keeps.refl _ _, trivial, fun _ h => h⟩)
  go_enter Try.func11, Try.ntmps11
  go_wp2
  go_loopw [3] (fun v3 wr => ∃ i : Nat, v3 = .int .i64 (i : Int) ∧ Aside0 (i ≤ l.length) ∧ Aside0 ((l.take i).all isLit = true) ∧ Aside0 (St w (fun k => w.heap.size ≤ k) wr [])) (fun v3 _ => l.length - (RowKit.intOf v3).toNat)
  case atStart => exact ⟨0, rfl, ⟨Nat.zero_le _⟩, ⟨rfl⟩, H0⟩
  case round =>
    clear H0
    obtain ⟨i, rfl, HI, HA, H0⟩ := hrel
    by_cases hlt : i < l.length
    · have hL := HL.out
      have hw : wrap64 ((i : Int) + 1) = ((i + 1 : Nat) : Int) := by unfold wrap64; omega
      have HW := Aside0.mk hw
      clear hw
      obtain ⟨x, hx⟩ : ∃ x, l[i]? = some x := ⟨_, List.getElem?_eq_getElem hlt⟩
      obtain ⟨ad, e, hx0⟩ := (HR.out.below H0.out.keeps.below) i x hx
      subst e
      have HX := Aside0.mk hx
      have c1' : decide ((i : Int) < (l.length : Int)) = true := decide_eq_true (by omega)
      have c2' : decide (i < l.length) = true := decide_eq_true hlt
      have p1 : (0 ≤ (i : Int)) = True := eq_true (by omega)
      have q1 : ((i : Int) < (l.length : Int)) = True := eq_true (by omega)
      by_cases hv : isLit x = true
      · have HV := Aside0.mk hv
        clear hv hx
        go_wp2_with (go_at_call 22; (with_reducible refine (q_rLiteral x _).mono ?_); rintro e w' ⟨rfl, rfl⟩; rw [HV.out])
        go_roundw
        case rel => exact ⟨i + 1, by go_num, ⟨by omega⟩, ⟨all_take_snoc HX.out HA.out HV.out⟩, H0⟩
        case measure => simp [RowKit.intOf, HW.out]; omega
      · have HV := Aside0.mk (Bool.eq_false_iff.2 hv)
        clear hv hx
        go_wp2_with (go_at_call 22; (with_reducible refine (q_rLiteral x _).mono ?_); rintro e w' ⟨rfl, rfl⟩; rw [HV.out])
        go_ret
        exact ⟨by rw [all_false HX.out HV.out]; rfl, H0.out.keeps.below⟩
    · have he : i = l.length := by have := HI.out; omega
      subst he
      have hE := HA.out
      rw [List.take_length] at hE
      have HE := Aside0.mk hE
      have c1' : decide ((l.length : Int) < (l.length : Int)) = false := decide_eq_false (by omega)
      have c2' : decide (l.length < l.length) = false := decide_eq_false (by omega)
      clear hE hlt
      go_wp2
      go_ret
      exact ⟨by rw [HE.out]; rfl, H0.out.keeps.below⟩
theorem q_Literals {w : World} {A : Option Addr} {c : Nat} {l : List Int} (hr : Rd w A l) (hl : l.length ≤ 1000000000) :
    Calls Try.prog 11 #[.slice A l.length c] w fun e w' => e = .returned (.bool (l.all isLit)) ∧ Below w.heap.size w w' := q_LiteralsW hr (by omega)
end Go.Proofs.Ytckimhhncpnkpaa.H
/- The reference's Most; the laws' few, good. -/
namespace Go.Proofs.Ytckimhhncpnkpaa.H
set_option linter.unusedSimpArgs false
set_option linter.unusedVariables false
open Go.RowKit Go.Proofs.YtckimhhncpnkpaaW.PrintWords Go.Proofs.YtckimhhncpnkpaaW.PrintLast Go.Proofs.YtckimhhncpnkpaaW.PrintMore Go.Proofs.Ytckimhhncpnkpaa.Sep Go.Proofs.Ytckimhhncpnkpaa.Sat
/-- A row of slices of one's own. -/
def rv (A : Option Addr) (n c : Nat) (vs : List Value) : Ch := row 23 1 (.slice A n c) n vs
theorem rv_nil {w : World} {L : List Ch} {U : Nat → Prop} (h : Sep w L U) : Sep w (rv none 0 0 [] :: L) U :=
  ⟨fun _ => False, ⟨World.ownsRow_nil w 0 23 1, fun k => ⟨False.elim, fun e => by simp [Value.ownBlock] at e⟩⟩, fun _ hk => hk.elim, h.mono (fun _ hk => ⟨hk, id⟩)⟩
theorem _root_.Go.Proofs.Ytckimhhncpnkpaa.Sep.St.rv_cells {w0 w : World} {U : Nat → Prop} {L : List Ch} {i : Nat} {A : Option Addr} {n c : Nat} {vs : List Value} (h : St w0 U w L) (hi : L[i]? = some (rv A n c vs)) : vs.length = n ∧ ∀ (j : Nat) (v : Value), vs[j]? = some v → ∃ ad, A = some ad ∧ w.cell? (ad.add j) = some v := by
  obtain ⟨fp, ⟨h1, _⟩, _⟩ := h.sat hi
  refine ⟨by have := h1.1; omega, fun j v hv => ?_⟩
  rcases h1.2 with ⟨_, h0⟩ | ⟨g, cap, cur, e, _⟩
  · have := (List.getElem?_eq_some_iff.1 hv).1
    have := h1.1
    omega
  · injection e with e
    subst e
    have := World.ownsRow.cells h1 (g := g) rfl j v hv
    exact ⟨_, rfl, this⟩
theorem Rdc.blkV {W : World} {g : Nat} {y : Value} {t : TypeId} (h : W.heap[g]? = some (.cells #[y] t (0, 0))) : Rdc W (some ⟨g, 0, none⟩) 1 [y] := fun _ => ⟨_, rfl, fun j u hu => by
  rw [add_plain, blk_cell h]
  match j, hu with
  | 0, hu => exact hu⟩
theorem RR.rdc {w : World} {A : Option Addr} {vs : List Value} {ls : List (List Int)} (h : RR w A vs ls) : Rdc w A ls.length vs := fun hn => by
  have hv := h.rv.len
  obtain ⟨ad, e, _⟩ := h.cells 0 vs[0] (List.getElem?_eq_getElem (by omega))
  refine ⟨ad, e, fun j u hu => ?_⟩
  obtain ⟨ad', e', hc⟩ := h.cells j u hu
  rw [e] at e'
  cases e'
  exact hc
theorem RV.one {w : World} {vs : List Value} {ls : List (List Int)} (h : RV w vs ls) : ∀ u ∈ vs, u.oneCell' = true := fun u hu => by
  obtain ⟨j, hj⟩ := List.mem_iff_getElem?.1 hu
  have := (List.getElem?_eq_some_iff.1 hj).1
  have hlt : j < ls.length := by rw [← h.len]; exact this
  obtain ⟨B, c, h1, _⟩ := h.at_ j ls[j] (List.getElem?_eq_getElem hlt)
  rw [hj] at h1
  cases h1
  rfl
theorem RV.snoc {w : World} {vs : List Value} {ls : List (List Int)} (h : RV w vs ls) {B : Option Addr} {c : Nat} {l : List Int} (hl : Rd w B l) : RV w (vs ++ [.slice B l.length c]) (ls ++ [l]) := by
  refine ⟨by rw [List.length_append, List.length_append, h.len]; rfl, fun j l' hj => ?_⟩
  by_cases hlt : j < ls.length
  · rw [List.getElem?_append_left hlt] at hj
    obtain ⟨B', c', h1, h2⟩ := h.at_ j l' hj
    exact ⟨B', c', by rw [List.getElem?_append_left (by rw [h.len]; exact hlt)]; exact h1, h2⟩
  · have hb := (List.getElem?_eq_some_iff.1 hj).1
    rw [List.length_append] at hb
    obtain rfl : j = ls.length := by have : ([l] : List (List Int)).length = 1 := rfl; omega
    rw [List.getElem?_append_right (Nat.le_refl _), Nat.sub_self] at hj
    cases hj
    exact ⟨B, c, by rw [List.getElem?_append_right (by rw [h.len]; exact Nat.le_refl _), h.len, Nat.sub_self]; rfl, hl⟩
theorem ev_rvappend {P : Program} {ops : Array Oper} {o : Oper} {rest : List Oper} {a : Act} {Q : Exit → Act → World → Prop} {w0 W : World} {U : Nat → Prop} {L : List Ch} {i : Nat} (hgd : o.guard = none) (H : St w0 U W L) {A B : Option Addr} {n c m cB : Nat} {xs ys : List Value} (hi : L[i]? = some (rv A n c xs)) {s x : Operand} {t : TypeId} (ho : o.op = .call { callee := .builtin .append, args := #[s, x], argTypes := #[t, t] })
    (ht : P.underlying t = some (.slice 23)) (hinfo : (P.info? 23).map (fun i => (i.zero, i.size, i.bytes)) = some (some (.slice none 0 0), 1, 24)) (hs : a.eval s = .slice A n c) (hx : a.eval x = .slice B m cB) (hy : ys.length = m) (hr : Rdc W B m ys) (h1 : ∀ u ∈ ys, u.oneCell' = true) (hl : n + m ≤ 1000000000000)
    (h : ∀ A' c' w1, St w0 U w1 (L.set i (rv A' (n + m) c' (xs ++ ys))) → wpList P ops Q rest (a.put o.dst (.slice A' (n + m) c')) w1) : wpList P ops Q (o :: rest) a W := by
  obtain ⟨v', w', h2, h3⟩ := H.append (P := P) hi t o.type (.slice none 0 0) 24 ht hinfo rfl (by decide) (by decide) B m cB ys (by omega) hr h1 (by omega)
  obtain ⟨fp, ⟨h4, _⟩, _⟩ := h3.sat (i := i) (A := row 23 1 v' (n + m) (xs ++ ys)) (by
    have := (List.getElem?_eq_some_iff.1 hi).1
    rw [List.getElem?_set_self this])
  obtain ⟨A', c', rfl⟩ : ∃ A' c', v' = .slice A' (n + m) c' := by
    rcases h4.2 with ⟨rfl, hn⟩ | ⟨g, cap, cur, rfl, _⟩
    · exact ⟨none, 0, by rw [hn]⟩
    · exact ⟨_, _, rfl⟩
  exact Kd.event_run hgd (run_append ho hs hx h2) (h A' c' w' h3)
/-- What Most does with a number, a row, rows. -/
def absW (x : Int) : Int := if x < 0 then wrap64 (-x) else x
def mst0 (n x : Int) : Int := if n < absW x then absW x else n
def mst1 (n : Int) (l : List Int) : Int := l.foldl mst0 n
def mst (n : Int) (ls : List (List Int)) : Int := ls.foldl mst1 n
theorem fold_take {α β : Type} {f : β → α → β} {l : List α} {i : Nat} {x : α} {b : β} (h : l[i]? = some x) : (l.take (i + 1)).foldl f b = f ((l.take i).foldl f b) x := by
  rw [List.take_succ_eq_append_getElem (List.getElem?_eq_some_iff.1 h).1, List.foldl_append, (List.getElem?_eq_some_iff.1 h).2]
  rfl
set_option maxHeartbeats 4000000 in
set_option maxRecDepth 100000 in
theorem q_Most {w : World} {A D : Option Addr} {c d : Nat} {vs : List Value} {ls : List (List Int)} {am : List Int} (hr : RR w A vs ls) (ha : Rd w D am) (hl : ls.length ≤ 1000000000) (hll : ∀ l ∈ ls, l.length ≤ 1000000000) (hal : am.length ≤ 1000000000) :
    Calls Try.prog 16 #[.slice A ls.length c, .slice D am.length d] w fun e w' => e = .returned (.int .i64 (mst 0 (ls ++ [am]))) ∧ Below w.heap.size w w' := by
  have HR := Aside0.mk hr
  have HRA := Aside0.mk ha
  have HL := Aside0.mk hl
  have H0 := Aside0.mk (show St w (fun k => w.heap.size ≤ k) w [rv none 0 0 []] from ⟨Keeps.refl _ _, rv_nil (L := []) trivial, fun _ h => h⟩)
  obtain ⟨al, hal2⟩ : ∃ al, al = ls ++ [am] := ⟨_, rfl⟩
  obtain ⟨vl, hvl⟩ : ∃ vl, vl = vs ++ [.slice D am.length d] := ⟨_, rfl⟩
  have hrv : RV w vl al := by rw [hvl, hal2]; exact hr.rv.snoc ha
  rw [← hal2]
  have hlen : ls.length + 1 = al.length := by rw [hal2, List.length_append]; rfl
  have HRV := Aside0.mk hrv
  have HVL := Aside0.mk hvl
  have HAL := Aside0.mk hlen
  have HALL := Aside0.mk (show (∀ l ∈ al, l.length ≤ 1000000000) ∧ al.length ≤ 1000000001 from ⟨fun l h => by
    rw [hal2] at h
    rcases List.mem_append.1 h with h | h
    · exact hll l h
    · rw [List.mem_singleton.1 h]; exact hal, by omega⟩)
  clear hr ha hl hll hal hal2 hvl hrv hlen
  go_enter Try.func16, Try.ntmps16
  go_wp2_with (first
    | ((with_reducible refine gate_builtin (b := .append) (xs := #[.const (.slice none 0 0), .tmp 10]) rfl ?_); refine ev_rvappend rfl H0.out (i := 0) rfl (s := .const (.slice none 0 0)) (x := .tmp 10) rfl Try.underlying22 infoS rfl rfl (m := ls.length) (ys := vs) HR.out.rv.len (HR.out.below H0.out.keeps.below).rdc (HR.out.rv.one) (by have := HL.out; omega) ?_; intro A1 c1 w1 H1; clear H0; rw [Nat.zero_add] at H1 ⊢; have H0 := Aside0.mk (show St w (fun k => w.heap.size ≤ k) w1 [rv A1 ls.length c1 vs] from H1); clear H1)
    | ((with_reducible refine gate_dst (N := 13) rfl ?_); refine ev_lit rfl H0.out (n := 1) (cs := #[.slice D am.length d]) (t := 23) ?hr ?_; (case hr => first | (go_simp; done) | (go_simp; rfl)); intro g w2 H1; clear H0; have H0 := Aside0.mk (show St w (fun k => w.heap.size ≤ k) w2 [blk g #[.slice D am.length d] 23, rv A1 ls.length c1 vs] from H1); clear H1)
    | ((with_reducible refine gate_builtin (b := .append) (xs := #[.tmp 11, .tmp 13]) rfl ?_); refine ev_rvappend rfl H0.out (i := 1) rfl (s := .tmp 11) (x := .tmp 13) rfl Try.underlying22 infoS rfl rfl (m := 1) (ys := [.slice D am.length d]) rfl (Rdc.blkV (H0.out.blk (i := 0) rfl)) (by intro u hu; rw [List.mem_singleton.1 hu]; rfl) (by have := HL.out; omega) ?_; intro A2 c2 w3 H1; have H1 := H1.drop; clear H0; have H0 := Aside0.mk (show St w (fun k => w.heap.size ≤ k) w3 [rv A2 (ls.length + 1) c2 (vs ++ [.slice D am.length d])] from H1); clear H1))
  have H1 := H0.out
  rw [← HVL.out] at H1
  rw [HAL.out] at H1 ⊢
  clear H0
  have H0 := Aside0.mk (show St w (fun k => w.heap.size ≤ k) w3 [rv A2 al.length c2 vl] from H1)
  clear H1
  go_loopg [7, 5] (al.length + 1) (fun kq v7 v5 wr => ∃ i : Nat, v7 = .int .i64 (i : Int) ∧ v5 = .int .i64 (mst 0 (al.take i)) ∧ Aside0 (i ≤ al.length) ∧ Aside0 (al.length - i < kq) ∧ Aside0 (St w (fun k => w.heap.size ≤ k) wr [rv A2 al.length c2 vl]))
  case atStart => exact ⟨0, rfl, rfl, ⟨Nat.zero_le _⟩, ⟨by omega⟩, H0⟩
  case round =>
    clear H0
    obtain ⟨i, rfl, rfl, HI, HQ, H0⟩ := hrel
    cases gk with
    | zero => exact absurd HQ.out (by have := HI.out; omega)
    | succ k1 =>
    by_cases hlt : i < al.length
    case pos =>
      obtain ⟨l, hx⟩ : ∃ l, al[i]? = some l := ⟨_, List.getElem?_eq_getElem hlt⟩
      have HX := Aside0.mk hx
      have HFT := Aside0.mk (show mst 0 (al.take (i + 1)) = mst1 (mst 0 (al.take i)) l from fold_take hx)
      generalize mst 0 (al.take i) = n0 at *
      obtain ⟨B1, c1', hv1, hrd⟩ := HRV.out.at_ i l hx
      have HV1 := Aside0.mk hv1
      have HRD := Aside0.mk hrd
      have HLI := Aside0.mk (HALL.out.1 l (List.mem_of_getElem? hx))
      have hb := HALL.out.2
      have c1' : decide ((i : Int) < (al.length : Int)) = true := decide_eq_true (by omega)
      have c2' : decide (i < al.length) = true := decide_eq_true hlt
      have p1 : (0 ≤ (i : Int)) = True := eq_true (by omega)
      have q1 : ((i : Int) < (al.length : Int)) = True := eq_true (by omega)
      have q2 : (i < al.length) = True := eq_true hlt
      have q3 : wrap64 ((i : Int) + 1) = (i : Int) + 1 := by unfold wrap64; omega
      have HLT := Aside0.mk hlt
      clear hx hv1 hrd hlt hb
      go_wp2_with fail
      go_loopg [8, 5] (l.length + 1) (fun kq v8 v5 wr => ∃ k : Nat, v8 = .int .i64 (k : Int) ∧ v5 = .int .i64 (mst1 n0 (l.take k)) ∧ Aside0 (k ≤ l.length) ∧ Aside0 (l.length - k < kq) ∧ Aside0 (St w (fun k => w.heap.size ≤ k) wr [rv A2 al.length c2 vl]))
      case atStart => exact ⟨0, rfl, rfl, ⟨Nat.zero_le _⟩, ⟨by omega⟩, H0⟩
      case round =>
        clear H0
        obtain ⟨k, rfl, rfl, HK, HQ2, H0⟩ := hrel
        cases gk with
        | zero => exact absurd HQ2.out (by have := HK.out; omega)
        | succ k2 =>
        obtain ⟨ad, rfl, hx0⟩ := (H0.out.rv_cells (i := 0) rfl).2 i _ HV1.out
        by_cases hlt : k < l.length
        case pos =>
          obtain ⟨x, hx⟩ : ∃ x, l[k]? = some x := ⟨_, List.getElem?_eq_getElem hlt⟩
          obtain ⟨bd, rfl, hy0⟩ := (HRD.out.below H0.out.keeps.below) k x hx
          have HFK := Aside0.mk (show mst1 n0 (l.take (k + 1)) = mst0 (mst1 n0 (l.take k)) x from fold_take hx)
          generalize mst1 n0 (l.take k) = n1 at *
          have hb := HLI.out
          have d1 : decide ((k : Int) < (l.length : Int)) = true := decide_eq_true (by omega)
          have d2 : decide (k < l.length) = true := decide_eq_true hlt
          have r1 : (0 ≤ (k : Int)) = True := eq_true (by omega)
          have r2 : ((k : Int) < (l.length : Int)) = True := eq_true (by omega)
          have r3 : (k < l.length) = True := eq_true hlt
          have r4 : wrap64 ((k : Int) + 1) = (k : Int) + 1 := by unfold wrap64; omega
          have HLK := Aside0.mk hlt
          obtain ⟨z, hz⟩ : ∃ z, absW x = z := ⟨_, rfl⟩
          have HF2 := Aside0.mk (show mst0 n1 x = if n1 < z then z else n1 by unfold mst0; rw [hz])
          by_cases hneg : x < 0
          all_goals by_cases hgt : n1 < z
          all_goals
            have HZ := Aside0.mk hz
            have HNG := Aside0.mk hneg
            have HGT := Aside0.mk hgt
          · have e1 : wrap64 (-x) = z := by rw [← HZ.out]; unfold absW; rw [if_pos HNG.out]
            have e2 : decide (x < 0) = true := decide_eq_true HNG.out
            have e3 : decide (z > n1) = true := decide_eq_true HGT.out
            have e4 : decide (n1 < z) = true := decide_eq_true HGT.out
            clear hneg hgt hx hlt hb hz
            go_wp2_with fail
            go_roundg k2
            case measure => have := HLK.out; have := HQ2.out; omega
            case rel => exact ⟨k + 1, by go_num, by rw [HFK.out, HF2.out, if_pos HGT.out, e1], ⟨HLK.out⟩, ⟨by have := HLK.out; have := HQ2.out; omega⟩, H0⟩
          · have e1 : wrap64 (-x) = z := by rw [← HZ.out]; unfold absW; rw [if_pos HNG.out]
            have e2 : decide (x < 0) = true := decide_eq_true HNG.out
            have e3 : decide (z > n1) = false := decide_eq_false HGT.out
            have e4 : decide (n1 < z) = false := decide_eq_false HGT.out
            clear hneg hgt hx hlt hb hz
            go_wp2_with fail
            go_roundg k2
            case measure => have := HLK.out; have := HQ2.out; omega
            case rel => exact ⟨k + 1, by go_num, by rw [HFK.out, HF2.out, if_neg (by first | exact HGT.out | exact Int.not_lt.2 HGT.out)], ⟨HLK.out⟩, ⟨by have := HLK.out; have := HQ2.out; omega⟩, H0⟩
          · have e1 : x = z := by rw [← HZ.out]; unfold absW; rw [if_neg HNG.out]
            have e2 : decide (x < 0) = false := decide_eq_false HNG.out
            subst e1
            have e3 : decide (x > n1) = true := decide_eq_true HGT.out
            have e4 : decide (n1 < x) = true := decide_eq_true HGT.out
            clear hneg hgt hx hlt hb hz
            go_wp2_with fail
            go_roundg k2
            case measure => have := HLK.out; have := HQ2.out; omega
            case rel => exact ⟨k + 1, by go_num, by rw [HFK.out, HF2.out, if_pos HGT.out], ⟨HLK.out⟩, ⟨by have := HLK.out; have := HQ2.out; omega⟩, H0⟩
          · have e1 : x = z := by rw [← HZ.out]; unfold absW; rw [if_neg HNG.out]
            have e2 : decide (x < 0) = false := decide_eq_false HNG.out
            subst e1
            have e3 : decide (x > n1) = false := decide_eq_false HGT.out
            have e4 : decide (n1 < x) = false := decide_eq_false HGT.out
            clear hneg hgt hx hlt hb hz
            go_wp2_with fail
            go_roundg k2
            case measure => have := HLK.out; have := HQ2.out; omega
            case rel => exact ⟨k + 1, by go_num, by rw [HFK.out, HF2.out, if_neg (by first | exact HGT.out | exact Int.not_lt.2 HGT.out)], ⟨HLK.out⟩, ⟨by have := HLK.out; have := HQ2.out; omega⟩, H0⟩
        case neg =>
          have hke : k = l.length := by have := HK.out; omega
          subst hke
          rw [List.take_length, ← HFT.out]
          have d1 : decide ((l.length : Int) < (l.length : Int)) = false := decide_eq_false (by omega)
          have d2 : decide (l.length < l.length) = false := decide_eq_false (by omega)
          clear hlt
          go_wp2_with fail
          go_roundg k1
          case measure => have := HLT.out; have := HQ.out; omega
          case rel => exact ⟨i + 1, by go_num, rfl, ⟨HLT.out⟩, ⟨by have := HLT.out; have := HQ.out; omega⟩, H0⟩
    case neg =>
      have hie : i = al.length := by have := HI.out; omega
      subst hie
      rw [List.take_length]
      have d1 : decide ((al.length : Int) < (al.length : Int)) = false := decide_eq_false (by omega)
      have d2 : decide (al.length < al.length) = false := decide_eq_false (by omega)
      clear hlt
      go_wp2_with fail
      go_ret
      exact ⟨rfl, H0.out.keeps.below⟩
end Go.Proofs.Ytckimhhncpnkpaa.H
/- The laws' few, good; what slices.Compact leaves of a sorted row. -/
namespace Go.Proofs.Ytckimhhncpnkpaa.H
set_option linter.unusedSimpArgs false
set_option linter.unusedVariables false
open Go.RowKit Go.Proofs.YtckimhhncpnkpaaW.PrintWords Go.Proofs.YtckimhhncpnkpaaW.PrintLast Go.Proofs.YtckimhhncpnkpaaW.PrintMore Go.Proofs.Ytckimhhncpnkpaa.Sep Go.Proofs.Ytckimhhncpnkpaa.Sat
/-! ### a sorted row, compacted -/
theorem srt_mem {l : List Int} {y : Int} : y ∈ srt l ↔ y ∈ l := (List.mergeSort_perm l _).mem_iff
theorem srt_sorted (l : List Int) : (srt l).Pairwise (· ≤ ·) := by
  have h := List.pairwise_mergeSort (le := fun x y : Int => decide (x ≤ y)) (fun a b c h1 h2 => by simp only [decide_eq_true_eq] at *; omega) (fun a b => by simp only [Bool.or_eq_true, decide_eq_true_eq]; omega) l
  exact h.imp fun h => by simpa using h
theorem get_bang {l : List Int} {j : Nat} (h : j < l.length) : l.toArray[j]! = l[j] := by rw [getElem!_pos l.toArray j (by simpa using h)]; simp
theorem keeps_iff {l : List Int} {j : Nat} (h : j < l.length) : Lib.keeps l.toArray j = true ↔ j = 0 ∨ l[j] ≠ l[j - 1]'(by omega) := by
  unfold Lib.keeps
  rw [decide_eq_true_iff, get_bang h, get_bang (show j - 1 < l.length by omega)]
theorem mem_compact {l : List Int} {y : Int} : y ∈ Lib.compact l ↔ y ∈ l := by
  unfold Lib.compact Lib.compactUpTo
  constructor
  · intro h
    obtain ⟨j, hj, rfl⟩ := List.mem_map.1 h
    have hl := List.mem_range.1 (List.mem_filter.1 hj).1
    rw [get_bang hl]
    exact List.getElem_mem hl
  · intro h
    obtain ⟨j, hj, e⟩ := List.mem_iff_getElem.1 h
    induction j using Nat.strongRecOn with
    | _ j ih =>
      by_cases hk : Lib.keeps l.toArray j = true
      · exact List.mem_map.2 ⟨j, List.mem_filter.2 ⟨List.mem_range.2 hj, hk⟩, by rw [get_bang hj, e]⟩
      · rw [keeps_iff hj, not_or] at hk
        have h2 : l[j - 1]'(by omega) = y := by rw [← e]; exact (Classical.byContradiction fun h3 => hk.2 fun h4 => h3 h4.symm)
        exact ih (j - 1) (by omega) (by omega) h2
theorem sorted_get {l : List Int} (h : l.Pairwise (· ≤ ·)) {i j : Nat} (hij : i ≤ j) (hj : j < l.length) : l[i]'(by omega) ≤ l[j] := by
  rcases Nat.lt_or_ge i j with h1 | h1
  · exact List.pairwise_iff_getElem.1 h i j (by omega) hj h1
  · obtain rfl : i = j := by omega
    exact Int.le_refl _
theorem compact_nodup {l : List Int} (h : l.Pairwise (· ≤ ·)) : (Lib.compact l).Nodup := by
  unfold Lib.compact Lib.compactUpTo
  refine List.pairwise_map.2 ((List.Pairwise.filter _ (List.pairwise_lt_range (n := l.length))).imp_of_mem fun {a b} ha hb hab e => ?_)
  have h1 := List.mem_filter.1 ha
  have h2 := List.mem_filter.1 hb
  have ha' := List.mem_range.1 h1.1
  have hb' := List.mem_range.1 h2.1
  rw [get_bang ha', get_bang hb'] at e
  rcases (keeps_iff hb').1 h2.2 with h3 | h3
  · omega
  · have h4 := sorted_get h (show a ≤ b - 1 by omega) (show b - 1 < l.length by omega)
    have h5 := sorted_get h (show b - 1 ≤ b by omega) hb'
    exact h3 (by omega)
theorem compact_len (l : List Int) : (Lib.compact (srt l)).length ≤ l.length := by
  have := Lib.compact_length_le (srt l)
  have h2 : (srt l).length = l.length := by unfold srt; rw [List.length_mergeSort]
  omega
/-! ### few -/
structure Few (ls : List (List Int)) (am : List Int) (cl vars : Int) : Prop where
  rows : (ls.length : Int) ≤ cl
  amN : am.length ≤ 40
  each : ∀ l ∈ ls, l.length ≤ 40
  most : mst 0 (ls ++ [am]) ≤ vars
set_option maxHeartbeats 4000000 in
set_option maxRecDepth 100000 in
theorem q_few {w : World} {A D : Option Addr} {c d : Nat} {vs : List Value} {ls : List (List Int)} {am : List Int} {cl vars : Int} (hr : RR w A vs ls) (ha : Rd w D am) (hcl : cl ≤ 1000000) :
    Calls Try.prog 9 #[.slice A ls.length c, .slice D am.length d, .int .i64 cl, .int .i64 vars] w fun e w' => ∃ b, e = .returned (.bool b) ∧ (b = true → Few ls am cl vars) ∧ Below w.heap.size w w' := by
  have HR := Aside0.mk hr
  have HRA := Aside0.mk ha
  have HCL := Aside0.mk hcl
  clear hr ha hcl
  have H0 := Aside0.mk (show St w (fun k => w.heap.size ≤ k) w [] from ⟨Keeps.refl _ _, trivial, fun _ h => h⟩)
  by_cases hn : cl < (ls.length : Int)
  · have d1 : decide ((ls.length : Int) > cl) = true := decide_eq_true hn
    have d2 : decide (cl < (ls.length : Int)) = true := decide_eq_true hn
    clear hn
    go_enter Try.func9, Try.ntmps9
    go_wp2
    go_ret
    exact ⟨false, rfl, (fun h => by cases h), H0.out.keeps.below⟩
  by_cases hm : 40 < am.length
  · have d1 : decide ((ls.length : Int) > cl) = false := decide_eq_false hn
    have d2 : decide (cl < (ls.length : Int)) = false := decide_eq_false hn
    have d3 : decide ((am.length : Int) > 40) = true := decide_eq_true (by omega)
    have d4 : decide ((40 : Int) < (am.length : Int)) = true := decide_eq_true (by omega)
    have d5 : decide (40 < am.length) = true := decide_eq_true (by omega)
    clear hn hm
    go_enter Try.func9, Try.ntmps9
    go_wp2
    go_ret
    exact ⟨false, rfl, (fun h => by cases h), H0.out.keeps.below⟩
  have d1 : decide ((ls.length : Int) > cl) = false := decide_eq_false hn
  have d2 : decide (cl < (ls.length : Int)) = false := decide_eq_false hn
  have d3 : decide ((am.length : Int) > 40) = false := decide_eq_false (by omega)
  have d4 : decide ((40 : Int) < (am.length : Int)) = false := decide_eq_false (by omega)
  have d5 : decide (40 < am.length) = false := decide_eq_false (by omega)
  have HL := Aside0.mk (show ls.length ≤ 1000000000 by have := HCL.out; omega)
  have HN := Aside0.mk (show (ls.length : Int) ≤ cl ∧ am.length ≤ 40 by omega)
  clear hn hm
  go_enter Try.func9, Try.ntmps9
  go_wp2
  clear d1 d2 d3 d4 d5
  go_loopw [9] (fun v9 wr => ∃ i : Nat, v9 = .int .i64 (i : Int) ∧ Aside0 (i ≤ ls.length) ∧ Aside0 ((ls.take i).all (fun l => decide (l.length ≤ 40)) = true) ∧ Aside0 (St w (fun k => w.heap.size ≤ k) wr [])) (fun v9 _ => ls.length - (RowKit.intOf v9).toNat)
  case atStart => exact ⟨0, rfl, ⟨Nat.zero_le _⟩, ⟨rfl⟩, H0⟩
  case round =>
    clear H0
    obtain ⟨i, rfl, HI, HA, H0⟩ := hrel
    by_cases hlt : i < ls.length
    · obtain ⟨l, hx⟩ : ∃ l, ls[i]? = some l := ⟨_, List.getElem?_eq_getElem hlt⟩
      obtain ⟨ad, B1, c1, e, hx0, hrd⟩ := (HR.out.below H0.out.keeps.below).get hx
      subst e
      have HX := Aside0.mk hx
      have hL := HL.out
      have hw : wrap64 ((i : Int) + 1) = ((i + 1 : Nat) : Int) := by unfold wrap64; omega
      have HW := Aside0.mk hw
      clear hw
      have c1' : decide ((i : Int) < (ls.length : Int)) = true := decide_eq_true (by omega)
      have c2' : decide (i < ls.length) = true := decide_eq_true hlt
      have p1 : (0 ≤ (i : Int)) = True := eq_true (by omega)
      have q1 : ((i : Int) < (ls.length : Int)) = True := eq_true (by omega)
      have q2 : (i < ls.length) = True := eq_true hlt
      by_cases hv : 40 < l.length
      · have d3 : decide ((l.length : Int) > 40) = true := decide_eq_true (by omega)
        have d4 : decide ((40 : Int) < (l.length : Int)) = true := decide_eq_true (by omega)
        have d5 : decide (40 < l.length) = true := decide_eq_true (by omega)
        clear hx hrd hv
        go_wp2
        go_ret
        exact ⟨false, rfl, (fun h => by cases h), H0.out.keeps.below⟩
      · have HV := Aside0.mk (show (fun l : List Int => decide (l.length ≤ 40)) l = true from decide_eq_true (by omega))
        have d3 : decide ((l.length : Int) > 40) = false := decide_eq_false (by omega)
        have d4 : decide ((40 : Int) < (l.length : Int)) = false := decide_eq_false (by omega)
        have d5 : decide (40 < l.length) = false := decide_eq_false (by omega)
        clear hx hrd hv
        go_wp2
        go_roundw
        case rel => exact ⟨i + 1, by go_num, ⟨by omega⟩, ⟨all_take_snoc HX.out HA.out HV.out⟩, H0⟩
        case measure => simp [RowKit.intOf, HW.out]; omega
    · have he : i = ls.length := by have := HI.out; omega
      subst he
      have hE := HA.out
      rw [List.take_length] at hE
      have HE := Aside0.mk hE
      have c1' : decide ((ls.length : Int) < (ls.length : Int)) = false := decide_eq_false (by omega)
      have c2' : decide (ls.length < ls.length) = false := decide_eq_false (by omega)
      clear hE hlt
      have HLL := Aside0.mk (show ∀ l ∈ ls, l.length ≤ 40 from fun l hl => by have := List.all_eq_true.1 HE.out l hl; simpa using this)
      by_cases hm : mst 0 (ls ++ [am]) ≤ vars
      · have HM := Aside0.mk hm
        have d3 : decide (mst 0 (ls ++ [am]) ≤ vars) = true := decide_eq_true hm
        clear hm
        go_wp2_with (go_at_call 16; (refine (q_Most (HR.out.below H0.out.keeps.below) (HRA.out.below H0.out.keeps.below) HL.out (fun l hl => by have := HLL.out l hl; omega) (by have := HN.out; omega)).mono ?_); rintro e w1 ⟨rfl, hb1⟩; have H1 := H0.out.quiet hb1)
        go_ret
        exact ⟨true, rfl, fun _ => ⟨HN.out.1, HN.out.2, HLL.out, HM.out⟩, H1.keeps.below⟩
      · have d3 : decide (mst 0 (ls ++ [am]) ≤ vars) = false := decide_eq_false hm
        clear hm
        go_wp2_with (go_at_call 16; (refine (q_Most (HR.out.below H0.out.keeps.below) (HRA.out.below H0.out.keeps.below) HL.out (fun l hl => by have := HLL.out l hl; omega) (by have := HN.out; omega)).mono ?_); rintro e w1 ⟨rfl, hb1⟩; have H1 := H0.out.quiet hb1)
        go_ret
        exact ⟨false, rfl, (fun h => by cases h), H1.keeps.below⟩
/-! ### good -/
def goods (ls : List (List Int)) : List (List Int) := ls.filter fun l => l.all isLit
theorem goods_snoc {ls : List (List Int)} {i : Nat} {l : List Int} (h : ls[i]? = some l) : goods (ls.take (i + 1)) = goods (ls.take i) ++ (if l.all isLit = true then [l] else []) := by
  rw [List.take_succ_eq_append_getElem (List.getElem?_eq_some_iff.1 h).1, (List.getElem?_eq_some_iff.1 h).2]
  unfold goods
  rw [List.filter_append]
  congr 1
  by_cases hl : l.all isLit = true
  · rw [if_pos hl, List.filter_cons, if_pos hl]; rfl
  · rw [if_neg hl, List.filter_cons, if_neg hl]; rfl
theorem goods_len (ls : List (List Int)) : (goods ls).length ≤ ls.length := List.length_filter_le _ _
end Go.Proofs.Ytckimhhncpnkpaa.H
/- The solver as New makes it; what is told of it. -/
namespace Go.Proofs.Ytckimhhncpnkpaa.Sat
set_option linter.unusedVariables false
open Go.Proofs.Ytckimhhncpnkpaa.Sep
/-- As New makes it. -/
def fresh : Sol := ⟨[], 0, [], [], [], [], [], [], 1, [], [], 0, 0, false⟩
def fresh1 : Sol := ⟨[], 0, [], [0], [0], [-1], [0], [0], 1, [], [], 0, 0, false⟩
theorem fresh_inv : Inv [] 1 0 fresh1 := by
  refine ⟨⟨⟨rfl, rfl, rfl, rfl, rfl⟩, by omega, by omega, fun x hx => (by cases hx), List.nodup_nil, fun x hx => (by cases hx), fun v hv _ => ?_, fun t ht => ?_, List.Pairwise.nil, fun s hs => (by cases hs), fun i x hx => (by simp [fresh1] at hx), ⟨Int.le_refl _, Int.le_refl _⟩⟩, ⟨fun l hl => (by cases hl), fun l hl => (by cases hl), fun l hl => (by cases hl)⟩, ⟨fun l hl => by (cases hl), fun i x hx => (by simp [fresh1] at hx), fun h => (by cases h)⟩, fun i x hx => (by simp [fresh1] at hx), ⟨fun x => List.nodup_nil, fun x k => ⟨fun h => (by cases h), fun ⟨_, l, h, _⟩ => (by simp [fresh1] at h)⟩⟩, fun l hl => (by cases hl), fun s hs => (by cases hs), by decide⟩
  · obtain rfl : v = 0 := by omega
    rfl
  · have : t = 0 := by simpa [fresh1] using ht
    exact .inl this
theorem fresh_rest {B N : Nat} (hB : miss N [] ≤ B) (hN : 1 ≤ N) : Rest [] 1 B N fresh1 :=
  ⟨⟨0, fresh_inv, fun _ => ⟨rfl, fun a _ _ c hc => (by cases hc)⟩⟩, rfl, by show 0 + miss N [] ≤ B; omega, rfl, Int.le_refl _, by decide, fun c hc => (by cases hc), hN, rfl⟩
theorem fresh_room {v : Int} (hv : 0 ≤ v) : fresh.room v = fresh1.room v := by
  obtain ⟨k, rfl⟩ : ∃ k : Nat, v = (k : Int) := ⟨v.toNat, by omega⟩
  unfold Sol.room Sol.grow fresh fresh1
  dsimp only
  rw [show ((k : Int) + 1).toNat - ([] : List Int).length = k + 1 from by simp, show ((k : Int) + 1).toNat - ([(0 : Int)] : List Int).length = k from by simp]
  rfl
theorem more_room {l : List Int} {v : Int} (hv : 0 ≤ v) : (fresh.more l).room v = (fresh1.more l).room v := by
  obtain ⟨k, rfl⟩ : ∃ k : Nat, v = (k : Int) := ⟨v.toNat, by omega⟩
  unfold Sol.more Sol.room Sol.grow fresh fresh1
  dsimp only
  rw [show ((k : Int) + 1).toNat - ([] : List Int).length = k + 1 from by simp, show ((k : Int) + 1).toNat - ([(0 : Int)] : List Int).length = k from by simp]
  rfl
theorem fresh_solve (As : List Int) (seed : Int) (f : Nat) (m : Option Mtr) : fresh.solve As seed f m = fresh1.solve As seed f m := by
  have hv : 0 ≤ maxVar As 0 := (maxVar_le As 0).1
  unfold Sol.solve
  rw [show fresh.vars = 0 from rfl, show fresh1.vars = 0 from rfl, fresh_room hv]
/-- A solver between calls, or a new one. -/
def RestN (Cs : List (List Int)) (B N : Nat) (S : Sol) : Prop := (∃ n, Rest Cs n B N S) ∨ (S = fresh ∧ Cs = [] ∧ miss N [] ≤ B ∧ 1 ≤ N)
theorem add_specN {Cs : List (List Int)} {B N : Nat} {S : Sol} (h : RestN Cs B N S) (hN : N ≤ 100000) (l l2 : List Int) (hl : ∀ x ∈ l, x ≠ 0 ∧ x.natAbs < N) (hm : ∀ y, y ∈ l2 ↔ y ∈ l) (hd : l2.Nodup) :
    ∃ n', Rest (Cs ++ [l]) n' (B + 1) N (((S.more l).room (maxVar l S.vars)).addTo l2) ∧ Shape ((S.more l).room (maxVar l S.vars)) n' ∧ (∀ x ∈ l, x.natAbs < n') ∧ (B ≤ 1000000000 → ((S.more l).room (maxVar l S.vars)).mayKeep) := by
  rcases h with ⟨n, h⟩ | ⟨rfl, rfl, hB, h1⟩
  · exact add_spec h hN l l2 hl hm hd
  · have hv : 0 ≤ maxVar l 0 := (maxVar_le l 0).1
    rw [show fresh.vars = 0 from rfl, more_room hv]
    exact add_spec (fresh_rest hB h1) hN l l2 hl hm hd
theorem solve_specN {Cs : List (List Int)} {B N : Nat} {S : Sol} (h : RestN Cs B N S) (hN : N ≤ 100000) (hB : B ≤ 1000000000) (hB2 : 3 ^ N + N ≤ 100000000000) (As : List Int) (hA : ∀ x ∈ As, x ≠ 0 ∧ x.natAbs < N) (hAl : As.length ≤ 100000) (seed : Int) (m : Option Mtr) :
    ∃ f S' m' out r n', S.solve As seed f m = some (S', m', out, r) ∧ Rest Cs n' B N S' ∧ (MOk m → r ≠ 3) ∧
      ((r = 1 ∧ ∃ a, fits Cs a ∧ (∀ x ∈ As, tv a x = true) ∧ out = (List.range (maxVar As S.vars).toNat).map (fun v => a (v + 1))) ∨
       (r = 2 ∧ out = [] ∧ ∀ a, fits Cs a → ∃ x ∈ As, tv a x = false) ∨ (r = 3 ∧ out = [] ∧ ∃ x, m' = some x ∧ x.over = true)) := by
  rcases h with ⟨n, h⟩ | ⟨rfl, rfl, hB0, h1⟩
  · exact solve_spec h hN hB hB2 As hA hAl seed m
  · obtain ⟨f, S', m', out, r, n', h2, h3⟩ := solve_spec (fresh_rest hB0 h1) hN hB hB2 As hA hAl seed m
    exact ⟨f, S', m', out, r, n', by rw [fresh_solve]; exact h2, h3⟩
theorem RestN.facts {Cs : List (List Int)} {B N : Nat} {S : Sol} (h : RestN Cs B N S) (hN : N ≤ 100000) : S.vars = Cs.foldl (fun v c => maxVar c v) 0 ∧ 0 ≤ S.vars ∧ S.vars < N ∧ S.added = Cs.length ∧ ∃ n, Five S n ∧ n ≤ 1000000 := by
  rcases h with ⟨n, h⟩ | ⟨rfl, rfl, hB0, h1⟩
  · obtain ⟨p, hI, _⟩ := h.inv
    exact ⟨h.vars, h.v0, by have := h.vn; have := h.nN; omega, h.added, n, hI.sh.five, hI.sh.small⟩
  · exact ⟨rfl, Int.le_refl _, by show (0 : Int) < N; omega, rfl, 0, ⟨rfl, rfl, rfl, rfl, rfl⟩, by omega⟩
/-! ### without clauses -/
end Go.Proofs.Ytckimhhncpnkpaa.Sat
/- Add and Solve by what they answer; a nil meter, a nil solver. -/
namespace Go.Proofs.Ytckimhhncpnkpaa.H
set_option linter.unusedSimpArgs false
set_option linter.unusedVariables false
open Go.RowKit Go.Proofs.YtckimhhncpnkpaaW.PrintWords Go.Proofs.YtckimhhncpnkpaaW.PrintLast Go.Proofs.YtckimhhncpnkpaaW.PrintMore Go.Proofs.Ytckimhhncpnkpaa.Sep Go.Proofs.Ytckimhhncpnkpaa.Sat
theorem q_NewF (w : World) : Does Try.prog 21 #[] w [] fun e L => ∃ b, e = .returned (.pointer (some ⟨b, 0, none⟩)) ∧ L = [sol b fresh] := q_New w
theorem q_AddR {Cs : List (List Int)} {B N c : Nat} {S : Sol} {l : List Int} {A : Option Addr} {C : Ch} (h : RestN Cs B N S) (hN : N ≤ 100000) (hB : B ≤ 1000000000) (hC : Lets C A l) (hlit : ∀ x ∈ l, isLit x = true) (hx : ∀ x ∈ l, x.natAbs < N) (hCs : Cs.length < 100000) (hl : l.length ≤ 1000000) :
    ∃ S' n', Sat.Rest (Cs ++ [l]) n' (B + 1) N S' ∧ ∀ (w : World) (b : Nat), Does Try.prog 18 #[.pointer (some ⟨b, 0, none⟩), .slice A l.length c] w [sol b S, C] fun e L => e = .returned (.int .i64 0) ∧ L = [sol b S', C] := by
  have hmem : ∀ y, y ∈ Lib.compact (srt l) ↔ y ∈ l := fun y => mem_compact.trans srt_mem
  obtain ⟨n', h1, h2, h3, h4⟩ := add_specN h hN l (Lib.compact (srt l)) (fun x hx' => ⟨(isLit_iff.1 (hlit x hx')).1, hx x hx'⟩) hmem (compact_nodup (srt_sorted l))
  obtain ⟨hv, hv0, hvn, ha, n, h5, hn⟩ := h.facts hN
  have hsm := h2.small
  have htl := h2.len
  refine ⟨_, n', h1, fun w b => ?_⟩
  refine q_Add (R := (S.more l).room (maxVar l S.vars)) (l2 := Lib.compact (srt l)) (n := n) hC hlit (by omega) ⟨by omega, by omega⟩ h5 (by omega) ⟨hv0, by omega⟩ rfl rfl (fun x hx' => (hmem x).1 hx') (by have := compact_len l; omega) (fun x hx' => ?_) (by rw [h2.five.i]; omega) (fun x hx' => ?_) (h4 hB)
  · obtain ⟨t, ht, _⟩ := h2.truth (isLit_iff.1 (hlit x hx')).1 (h3 x hx')
    exact ⟨t, ht⟩
  · have := h3 x hx'
    exact ⟨by rw [h2.five.i]; exact this, by rw [h2.five.l]; exact this, by rw [h2.five.w]; exact this, by omega, by omega⟩
/-- What Solve answers. -/
def Ans (Cs : List (List Int)) (As : List Int) (vars : Int) (out : List Bool) (r : Int) (m' : Option Mtr) : Prop :=
  (r = 1 ∧ ∃ a, fits Cs a ∧ (∀ x ∈ As, tv a x = true) ∧ out = (List.range (maxVar As vars).toNat).map (fun v => a (v + 1))) ∨
  (r = 2 ∧ out = [] ∧ ∀ a, fits Cs a → ∃ x ∈ As, tv a x = false) ∨ (r = 3 ∧ out = [] ∧ ∃ x, m' = some x ∧ x.over = true)
abbrev Spends (pm : Value) (Mt : Option Mtr → Ch) : Prop := ∀ (w : World) (m : Option Mtr), Does Try.prog 43 #[pm, .int .i64 1] w [Mt m] fun e L => e = .returned (.bool (spend m).2) ∧ L = [Mt (spend m).1]
theorem q_SolveR {Cs : List (List Int)} {B N cA : Nat} {S : Sol} {As : List Int} {A : Option Addr} {C : Ch} {pm : Value} {Mt : Option Mtr → Ch} (HS : Spends pm Mt) (h : RestN Cs B N S) (hN : N ≤ 100000) (hB : B ≤ 1000000000) (hB2 : 3 ^ N + N ≤ 100000000000) (hC : Lets C A As) (hlit : ∀ x ∈ As, isLit x = true) (hx : ∀ x ∈ As, x.natAbs < N) (hl : As.length ≤ 100000) (seed : Int) (m : Option Mtr) :
    ∃ S' m' out r n', Sat.Rest Cs n' B N S' ∧ (MOk m → r ≠ 3) ∧ Ans Cs As S.vars out r m' ∧ ∀ (w : World) (b : Nat), Does Try.prog 13 #[.pointer (some ⟨b, 0, none⟩), .slice A As.length cA, .int .i64 seed, pm] w [Mt m, sol b S, C] fun e L => ∃ B' c', e = .returned (.tuple #[.slice B' out.length c', .int .i64 r]) ∧ L = [br B' out.length c' out, Mt m', sol b S', C] := by
  obtain ⟨f, S', m', out, r, n', h1, h2, h3, h4⟩ := solve_specN h hN hB hB2 As (fun x hx' => ⟨(isLit_iff.1 (hlit x hx')).1, hx x hx'⟩) hl seed m
  obtain ⟨hv, hv0, hvn, ha, n, h5, hn⟩ := h.facts hN
  exact ⟨S', m', out, r, n', h2, h3, h4, fun w b => q_Solve hC ⟨HS⟩ h1 hlit (by omega) h5 (by omega) ⟨hv0, by omega⟩⟩
/-! ### a nil meter -/
def nilM (m : Option Mtr) : Ch := fact (m = none)
set_option maxHeartbeats 1000000 in
theorem q_SpendNil (w : World) : Calls Try.prog 43 #[.pointer none, .int .i64 1] w fun e w' => e = .returned (.bool true) ∧ w = w' := by
  go_enter Try.func43, Try.ntmps43
  go_wp2
  go_ret
  exact ⟨rfl, rfl⟩
theorem spends_nil : Spends (.pointer none) nilM := fun w m => by
  refine does_intro fun U hs => ?_
  obtain ⟨rfl, _⟩ := open_fact hs.sep
  refine (q_SpendNil w).mono fun e w' h => ⟨_, ⟨h.1, rfl⟩, ?_⟩
  rw [← h.2]
  exact hs
theorem st_fact {w0 w : World} {U : Nat → Prop} {L : List Ch} {p : Prop} (hp : p) (h : St w0 U w L) : St w0 U w (fact p :: L) := ⟨h.keeps, shut_fact hp h.sep, h.up⟩
theorem q_SolveN {Cs : List (List Int)} {B N cA : Nat} {S : Sol} {As : List Int} {A : Option Addr} {C : Ch} (h : RestN Cs B N S) (hN : N ≤ 100000) (hB : B ≤ 1000000000) (hB2 : 3 ^ N + N ≤ 100000000000) (hC : Lets C A As) (hlit : ∀ x ∈ As, isLit x = true) (hx : ∀ x ∈ As, x.natAbs < N) (hl : As.length ≤ 100000) (seed : Int) :
    ∃ S' out r n', Sat.Rest Cs n' B N S' ∧ r ≠ 3 ∧ Ans Cs As S.vars out r none ∧ ∀ (w : World) (b : Nat), Does Try.prog 13 #[.pointer (some ⟨b, 0, none⟩), .slice A As.length cA, .int .i64 seed, .pointer none] w [sol b S, C] fun e L => ∃ B' c', e = .returned (.tuple #[.slice B' out.length c', .int .i64 r]) ∧ L = [br B' out.length c' out, sol b S', C] := by
  obtain ⟨S', m', out, r, n', h1, h2, h3, h4⟩ := q_SolveR (cA := cA) spends_nil h hN hB hB2 hC hlit hx hl seed none
  have hr := h2 (.inl rfl)
  refine ⟨S', out, r, n', h1, hr, ?_, fun w b => does_intro fun U hs => ?_⟩
  · rcases h3 with h3 | h3 | h3
    · exact .inl h3
    · exact .inr (.inl h3)
    · exact absurd h3.1 hr
  · refine (St.does (L1 := [nilM none, sol b S, C]) (L2 := []) (st_fact rfl hs) (h4 w b)).mono ?_
    rintro e w' ⟨L1', ⟨B', c', rfl, rfl⟩, H1⟩
    exact ⟨_, ⟨B', c', rfl, rfl⟩, (H1.perm (perm_idx [1, 0, 2, 3] (by rfl) rfl)).drop⟩
/-- .. asked under nothing. -/
theorem q_SolveN0 {Cs : List (List Int)} {B N : Nat} {S : Sol} (h : RestN Cs B N S) (hN : N ≤ 100000) (hB : B ≤ 1000000000) (hB2 : 3 ^ N + N ≤ 100000000000) (seed : Int) :
    ∃ S' out r n', Sat.Rest Cs n' B N S' ∧ r ≠ 3 ∧ Ans Cs [] S.vars out r none ∧ ∀ (w : World) (b : Nat), Does Try.prog 13 #[.pointer (some ⟨b, 0, none⟩), .slice none 0 0, .int .i64 seed, .pointer none] w [sol b S] fun e L => ∃ B' c', e = .returned (.tuple #[.slice B' out.length c', .int .i64 r]) ∧ L = [br B' out.length c' out, sol b S'] := by
  obtain ⟨S', out, r, n', h1, h2, h3, h4⟩ := q_SolveN (cA := 0) (As := []) (A := none) (C := fact True) h hN hB hB2 (fun w fp _ j x hx => by cases hx) (fun x hx => by cases hx) (fun x hx => by cases hx) (Nat.zero_le _) seed
  refine ⟨S', out, r, n', h1, h2, h3, fun w b => does_intro fun U hs => ?_⟩
  refine (St.does (L1 := [sol b S, fact True]) (L2 := []) ((st_fact trivial hs).perm (perm_idx [1, 0] (by rfl) rfl)) (h4 w b)).mono ?_
  rintro e w' ⟨L1', ⟨B', c', rfl, rfl⟩, H1⟩
  exact ⟨_, ⟨B', c', rfl, rfl⟩, (H1.perm (perm_idx [2, 0, 1] (by rfl) rfl)).drop⟩
/-! ### Add that refuses -/
set_option maxHeartbeats 1000000 in
theorem q_AddBad {w : World} {b c : Nat} {l : List Int} {A : Option Addr} (hr : Rd w A l) (hl : l.length ≤ 1000000000) (hb : l.all isLit = false) :
    Calls Try.prog 18 #[.pointer (some ⟨b, 0, none⟩), .slice A l.length c] w fun e w' => e = .returned (.int .i64 1) ∧ Below w.heap.size w w' := by
  have H0 := Aside0.mk (show St w (fun k => w.heap.size ≤ k) w [] from ⟨Keeps.refl _ _, trivial, fun _ h => h⟩)
  have HR := Aside0.mk hr
  have HL := Aside0.mk hl
  have HAN := Aside0.mk (show (l.any fun x => !isLit x) = true from by
    rw [List.all_eq_false] at hb
    obtain ⟨x, hx, hn⟩ := hb
    exact List.any_eq_true.2 ⟨x, hx, by rw [Bool.eq_false_iff.2 hn]; rfl⟩)
  clear hr hl hb
  go_enter Try.func18, Try.ntmps18
  go_wp2_with (first
    | ((with_reducible refine gate_dst (N := 2) rfl ?_); refine ev_box rfl H0.out (cs := #[.pointer (some ⟨b, 0, none⟩)]) (t := 26) ?hr ?_; (case hr => first | (go_simp; done) | (go_simp; rfl)); intro gs w1_ H1; clear H0; have H0 := Aside0.mk H1; clear H1; have cs := H0.out.cell (i := 0) rfl)
    | ((with_reducible refine gate_dst (N := 3) rfl ?_); refine ev_box rfl H0.out (cs := #[.slice A l.length c]) (t := 23) ?hr ?_; (case hr => first | (go_simp; done) | (go_simp; rfl)); intro gl w2_ H1; clear H0 cs; have H0 := Aside0.mk H1; clear H1; have cl := H0.out.cell (i := 0) rfl; have cs := H0.out.cell (i := 1) rfl)
    | (go_at_call 23; (with_reducible refine (cf_Add1 (fun x => !isLit x) A c l _ ?sr HL.out ?sc).mono ?_); (case sr => exact HR.out.below H0.out.keeps.below); (case sc => exact fun x hx W hb => (q_Add1 x W).mono fun e w' h => ⟨h.1, h.2 ▸ Below.refl _ _⟩); rintro e w3_ ⟨rfl, hB⟩; have H1 := H0.out.quiet hB; clear H0 hB cl cs; have H0 := Aside0.mk H1; clear H1; rw [HAN.out]))
  go_ret
  exact ⟨rfl, H0.out.keeps.below⟩
/-- A literal row of two numbers. -/
theorem lit_ir2 {w0 w : World} {U : Nat → Prop} {L : List Ch} {g : Nat} {x y : Int} (h : St w0 U w (blk g #[.int .i64 x, .int .i64 y] 3 :: L)) : St w0 U w (ir (some ⟨g, 0, none⟩) 2 2 [x, y] :: L) := by
  obtain ⟨fp, ⟨h1, h2⟩, h3, h4⟩ := h.sep
  refine ⟨h.keeps, ⟨fp, ⟨⟨by rfl, .inr ⟨g, 2, #[.int .i64 x, .int .i64 y], rfl, Nat.zero_le _, h1, Nat.le_refl _, by decide, rfl, rfl⟩⟩, fun k => (h2 k).trans ⟨fun e => by rw [e]; rfl, fun e => by
    have e2 : some g = some k := e
    exact (Option.some.inj e2).symm⟩⟩, h3, h4⟩, h.up⟩
end Go.Proofs.Ytckimhhncpnkpaa.H
/- awake. -/
namespace Go.Proofs.Ytckimhhncpnkpaa.H
set_option linter.unusedSimpArgs false
set_option linter.unusedVariables false
open Go.RowKit Go.Proofs.YtckimhhncpnkpaaW.PrintWords Go.Proofs.YtckimhhncpnkpaaW.PrintLast Go.Proofs.YtckimhhncpnkpaaW.PrintMore Go.Proofs.Ytckimhhncpnkpaa.Sep Go.Proofs.Ytckimhhncpnkpaa.Sat
theorem br_own {w0 w : World} {U : Nat → Prop} {L : List Ch} {i : Nat} (h : St w0 U w L) {A : Option Addr} {n c : Nat} {xs : List Bool} (hi : L[i]? = some (br A n c xs)) : w.ownsRow 0 4 1 (.slice A n c) n (xs.map Value.bool) := by
  obtain ⟨fp, ⟨h1, _⟩, _⟩ := h.sat hi
  exact h1
theorem br_some {w0 w : World} {U : Nat → Prop} {L : List Ch} {i : Nat} (h : St w0 U w L) {A : Option Addr} {n c : Nat} {xs : List Bool} (hi : L[i]? = some (br A n c xs)) (hn : 0 < n) : ∃ g, A = some ⟨g, 0, none⟩ := by
  rcases (br_own h hi).2 with ⟨_, h0⟩ | ⟨g, cap, cur, hv, _⟩
  · omega
  · injection hv with hv
    exact ⟨g, hv⟩
theorem br_cell {w0 w : World} {U : Nat → Prop} {L : List Ch} {i : Nat} (h : St w0 U w L) {g n c : Nat} {xs : List Bool} (hi : L[i]? = some (br (some ⟨g, 0, none⟩) n c xs)) (j : Nat) (x : Bool) (hx : xs[j]? = some x) : w.cell? ⟨g, j, none⟩ = some (.bool x) := by
  have := World.ownsRow.cells (br_own h hi) (g := g) rfl j (.bool x) (by rw [List.getElem?_map, hx]; rfl)
  rwa [add_plain] at this
theorem fits3 {a : Nat → Bool} : fits [[1, 2], [-1, 2], [1, -2]] a ↔ a 1 = true ∧ a 2 = true := by
  cases h1 : a 1 <;> cases h2 : a 2 <;> simp [fits, csat, tv, h1, h2]
theorem fits4 {a : Nat → Bool} : ¬ fits [[1, 2], [-1, 2], [1, -2], [-1, -2]] a := by
  cases h1 : a 1 <;> cases h2 : a 2 <;> simp [fits, csat, tv, h1, h2]
theorem aw1 {out : List Bool} {r : Int} (h : Ans [[1, 2], [-1, 2], [1, -2]] [] 2 out r none) (hr : r ≠ 3) : r = 1 ∧ out = [true, true] := by
  rcases h with ⟨h1, a, h2, _, h3⟩ | ⟨h1, _, h2⟩ | ⟨h1, _⟩
  · obtain ⟨e1, e2⟩ := fits3.1 h2
    refine ⟨h1, ?_⟩
    rw [h3, show (maxVar [] 2).toNat = 2 from rfl, show List.range 2 = [0, 1] from rfl]
    simp [e1, e2]
  · obtain ⟨x, hx, _⟩ := h2 (fun _ => true) (fits3.2 ⟨rfl, rfl⟩)
    cases hx
  · exact absurd h1 hr
theorem aw2 {out : List Bool} {r v : Int} (h : Ans [[1, 2], [-1, 2], [1, -2]] [-1] v out r none) (hr : r ≠ 3) : r = 2 := by
  rcases h with ⟨h1, a, h2, h3, _⟩ | ⟨h1, _, h2⟩ | ⟨h1, _⟩
  · have e1 := (fits3.1 h2).1
    have := h3 (-1) (by simp)
    simp [tv, e1] at this
  · exact h1
  · exact absurd h1 hr
theorem aw3 {out : List Bool} {r v : Int} (h : Ans [[1, 2], [-1, 2], [1, -2], [-1, -2]] [] v out r none) (hr : r ≠ 3) : r = 2 := by
  rcases h with ⟨h1, a, h2, h3, _⟩ | ⟨h1, _, h2⟩ | ⟨h1, _⟩
  · exact absurd h2 fits4
  · exact h1
  · exact absurd h1 hr
set_option maxHeartbeats 4000000 in
set_option maxRecDepth 100000 in
theorem q_awake (w : World) : Calls Try.prog 8 #[] w fun e w' => e = .returned (.bool true) ∧ Below w.heap.size w w' := by
  have mixed : Try.prog.follows Departure.mixedOrders = true := by kernel_rfl
  have H0 := Aside0.mk (show St w (fun k => w.heap.size ≤ k) w [] from ⟨Keeps.refl _ _, trivial, fun _ h => h⟩)
  go_enter Try.func8, Try.ntmps8
  go_wp2_with (first
    | (go_at_call 21; (refine (St.does (L1 := []) (L2 := []) H0.out (q_NewF _)).mono ?_); rintro e w1 ⟨L1', ⟨b, rfl, rfl⟩, H1⟩; clear H0; have H0 := Aside0.mk (show St w (fun k => w.heap.size ≤ k) w1 [sol b fresh] from H1); clear H1; have HR0 := Aside0.mk (show RestN [] 27 3 fresh from .inr ⟨rfl, rfl, miss_le 3 [], by omega⟩); have t0_ := Aside0.mk True.intro)
    | ((with_reducible refine gate_dst (N := 13) rfl ?_); refine ev_lit rfl H0.out (n := 2) (cs := #[.int .i64 (1), .int .i64 (2)]) (t := 3) ?hr ?_; (case hr => first | (go_simp; done) | (go_simp; rfl)); intro g1 w2 H1; clear H0; have H0 := Aside0.mk (show St w (fun k => w.heap.size ≤ k) w2 [ir (some ⟨g1, 0, none⟩) 2 2 [1, 2], sol b fresh] from lit_ir2 H1); clear H1)
    | (go_at_call 18; have tk := t0_; obtain ⟨S1, n1, hRs, hD⟩ := q_AddR (c := 2) (l := [1, 2]) (A := some ⟨g1, 0, none⟩) (C := ir (some ⟨g1, 0, none⟩) 2 2 [1, 2]) HR0.out (by omega) (by omega) Lets.ir (by decide) (by decide) (by simp only [List.length_cons, List.length_nil]; omega) (by simp only [List.length_cons, List.length_nil]; omega); (refine (St.does (L1 := [sol b fresh, ir (some ⟨g1, 0, none⟩) 2 2 [1, 2]]) (L2 := []) (H0.out.perm (perm_idx [1, 0] (by rfl) rfl)) (hD _ _)).mono ?_); rintro e w3 ⟨L1', ⟨rfl, rfl⟩, H1⟩; clear H0 hD; have H0 := Aside0.mk (show St w (fun k => w.heap.size ≤ k) w3 [sol b S1] from (H1.perm (perm_idx [1, 0] (by rfl) rfl)).drop); clear H1; have HR1 := Aside0.mk (show Sat.Rest [[1, 2]] n1 28 3 S1 from hRs); clear hRs; clear tk t0_; have t1_ := Aside0.mk True.intro)
    | ((with_reducible refine gate_dst (N := 16) rfl ?_); refine ev_lit rfl H0.out (n := 2) (cs := #[.int .i64 (-1), .int .i64 (2)]) (t := 3) ?hr ?_; (case hr => first | (go_simp; done) | (go_simp; rfl)); intro g2 w4 H1; clear H0; have H0 := Aside0.mk (show St w (fun k => w.heap.size ≤ k) w4 [ir (some ⟨g2, 0, none⟩) 2 2 [-1, 2], sol b S1] from lit_ir2 H1); clear H1)
    | (go_at_call 18; have tk := t1_; obtain ⟨S2, n2, hRs, hD⟩ := q_AddR (c := 2) (l := [-1, 2]) (A := some ⟨g2, 0, none⟩) (C := ir (some ⟨g2, 0, none⟩) 2 2 [-1, 2]) (.inl ⟨_, HR1.out⟩) (by omega) (by omega) Lets.ir (by decide) (by decide) (by simp only [List.length_cons, List.length_nil]; omega) (by simp only [List.length_cons, List.length_nil]; omega); (refine (St.does (L1 := [sol b S1, ir (some ⟨g2, 0, none⟩) 2 2 [-1, 2]]) (L2 := []) (H0.out.perm (perm_idx [1, 0] (by rfl) rfl)) (hD _ _)).mono ?_); rintro e w5 ⟨L1', ⟨rfl, rfl⟩, H1⟩; clear H0 hD; have H0 := Aside0.mk (show St w (fun k => w.heap.size ≤ k) w5 [sol b S2] from (H1.perm (perm_idx [1, 0] (by rfl) rfl)).drop); clear H1; have HR2 := Aside0.mk (show Sat.Rest [[1, 2], [-1, 2]] n2 29 3 S2 from hRs); clear hRs; clear tk t1_; have t2_ := Aside0.mk True.intro)
    | ((with_reducible refine gate_dst (N := 19) rfl ?_); refine ev_lit rfl H0.out (n := 2) (cs := #[.int .i64 (1), .int .i64 (-2)]) (t := 3) ?hr ?_; (case hr => first | (go_simp; done) | (go_simp; rfl)); intro g3 w6 H1; clear H0; have H0 := Aside0.mk (show St w (fun k => w.heap.size ≤ k) w6 [ir (some ⟨g3, 0, none⟩) 2 2 [1, -2], sol b S2] from lit_ir2 H1); clear H1)
    | (go_at_call 18; have tk := t2_; obtain ⟨S3, n3, hRs, hD⟩ := q_AddR (c := 2) (l := [1, -2]) (A := some ⟨g3, 0, none⟩) (C := ir (some ⟨g3, 0, none⟩) 2 2 [1, -2]) (.inl ⟨_, HR2.out⟩) (by omega) (by omega) Lets.ir (by decide) (by decide) (by simp only [List.length_cons, List.length_nil]; omega) (by simp only [List.length_cons, List.length_nil]; omega); (refine (St.does (L1 := [sol b S2, ir (some ⟨g3, 0, none⟩) 2 2 [1, -2]]) (L2 := []) (H0.out.perm (perm_idx [1, 0] (by rfl) rfl)) (hD _ _)).mono ?_); rintro e w7 ⟨L1', ⟨rfl, rfl⟩, H1⟩; clear H0 hD; have H0 := Aside0.mk (show St w (fun k => w.heap.size ≤ k) w7 [sol b S3] from (H1.perm (perm_idx [1, 0] (by rfl) rfl)).drop); clear H1; have HR3 := Aside0.mk (show Sat.Rest [[1, 2], [-1, 2], [1, -2]] n3 30 3 S3 from hRs); clear hRs; clear tk t2_; have t3_ := Aside0.mk True.intro)
    | (go_at_call 13; have tk := t3_; obtain ⟨S4, out4, r4, n4, hRs, hr3, hAns, hD⟩ := q_SolveN0 (.inl ⟨_, HR3.out⟩) (by omega) (by omega) (by omega) 0; obtain ⟨rfl, rfl⟩ := aw1 ((RestN.facts (.inl ⟨_, HR3.out⟩) (by omega)).1 ▸ hAns) hr3; (refine (St.does (L1 := [sol b S3]) (L2 := []) H0.out (hD _ _)).mono ?_); rintro e w8 ⟨L1', ⟨B1, c1, rfl, rfl⟩, H1⟩; clear H0 hD hAns hr3; have H0 := Aside0.mk (show St w (fun k => w.heap.size ≤ k) w8 [sol b S4, br B1 2 c1 [true, true]] from H1.perm (perm_idx [1, 0] (by rfl) rfl)); clear H1; have HR4 := Aside0.mk (show Sat.Rest [[1, 2], [-1, 2], [1, -2]] n4 30 3 S4 from hRs); clear hRs; clear tk t3_; have t4_ := Aside0.mk True.intro)
    | ((with_reducible refine gate_dst (N := 28) rfl ?_); refine ev_lit rfl H0.out (n := 1) (cs := #[.int .i64 (-1)]) (t := 3) ?hr ?_; (case hr => first | (go_simp; done) | (go_simp; rfl)); intro g5 w9 H1; clear H0; have H0 := Aside0.mk (show St w (fun k => w.heap.size ≤ k) w9 [ir (some ⟨g5, 0, none⟩) 1 1 [-1], sol b S4, br B1 2 c1 [true, true]] from lit_ir H1); clear H1)
    | (go_at_call 13; have tk := t4_; obtain ⟨S5, out5, r5, n5, hRs, hr3, hAns, hD⟩ := q_SolveN (cA := 1) (As := [-1]) (A := some ⟨g5, 0, none⟩) (C := ir (some ⟨g5, 0, none⟩) 1 1 [-1]) (.inl ⟨_, HR4.out⟩) (by omega) (by omega) (by omega) Lets.ir (by decide) (by decide) (by simp only [List.length_cons, List.length_nil]; omega) 0; obtain rfl := aw2 hAns hr3; (refine (St.does (L1 := [sol b S4, ir (some ⟨g5, 0, none⟩) 1 1 [-1]]) (L2 := [br B1 2 c1 [true, true]]) (H0.out.perm (perm_idx [1, 0, 2] (by rfl) rfl)) (hD _ _)).mono ?_); rintro e w10 ⟨L1', ⟨B2, c2, rfl, rfl⟩, H1⟩; clear H0 hD hAns hr3; have H0 := Aside0.mk (show St w (fun k => w.heap.size ≤ k) w10 [sol b S5, br B1 2 c1 [true, true]] from (H1.perm (perm_idx [0, 2, 1, 3] (by rfl) rfl)).drop.drop); clear H1; have HR5 := Aside0.mk (show Sat.Rest [[1, 2], [-1, 2], [1, -2]] n5 30 3 S5 from hRs); clear hRs; clear tk t4_; have t5_ := Aside0.mk True.intro)
    | (go_at_call 17; (with_reducible refine (q_Vars H0.out.sep).mono ?_); rintro e w' ⟨rfl, rfl⟩; rw [show S5.vars = 2 from (RestN.facts (.inl ⟨_, HR5.out⟩) (by omega)).1])
    | ((with_reducible refine gate_dst (N := 35) rfl ?_); refine ev_lit rfl H0.out (n := 2) (cs := #[.int .i64 (-1), .int .i64 (-2)]) (t := 3) ?hr ?_; (case hr => first | (go_simp; done) | (go_simp; rfl)); intro g6 w11 H1; clear H0; have H0 := Aside0.mk (show St w (fun k => w.heap.size ≤ k) w11 [ir (some ⟨g6, 0, none⟩) 2 2 [-1, -2], sol b S5, br B1 2 c1 [true, true]] from lit_ir2 H1); clear H1)
    | (go_at_call 18; have tk := t5_; obtain ⟨S6, n6, hRs, hD⟩ := q_AddR (c := 2) (l := [-1, -2]) (A := some ⟨g6, 0, none⟩) (C := ir (some ⟨g6, 0, none⟩) 2 2 [-1, -2]) (.inl ⟨_, HR5.out⟩) (by omega) (by omega) Lets.ir (by decide) (by decide) (by simp only [List.length_cons, List.length_nil]; omega) (by simp only [List.length_cons, List.length_nil]; omega); (refine (St.does (L1 := [sol b S5, ir (some ⟨g6, 0, none⟩) 2 2 [-1, -2]]) (L2 := [br B1 2 c1 [true, true]]) (H0.out.perm (perm_idx [1, 0, 2] (by rfl) rfl)) (hD _ _)).mono ?_); rintro e w12 ⟨L1', ⟨rfl, rfl⟩, H1⟩; clear H0 hD; have H0 := Aside0.mk (show St w (fun k => w.heap.size ≤ k) w12 [sol b S6, br B1 2 c1 [true, true]] from (H1.perm (perm_idx [1, 0, 2] (by rfl) rfl)).drop); clear H1; have HR6 := Aside0.mk (show Sat.Rest [[1, 2], [-1, 2], [1, -2], [-1, -2]] n6 31 3 S6 from hRs); clear hRs; clear tk t5_; have t6_ := Aside0.mk True.intro)
    | (go_at_call 13; have tk := t6_; obtain ⟨S7, out7, r7, n7, hRs, hr3, hAns, hD⟩ := q_SolveN0 (.inl ⟨_, HR6.out⟩) (by omega) (by omega) (by omega) 0; obtain rfl := aw3 hAns hr3; (refine (St.does (L1 := [sol b S6]) (L2 := [br B1 2 c1 [true, true]]) H0.out (hD _ _)).mono ?_); rintro e w13 ⟨L1', ⟨B3, c3, rfl, rfl⟩, H1⟩; clear H0 hD hAns hr3 hRs; have H0 := Aside0.mk (show St w (fun k => w.heap.size ≤ k) w13 [br B3 out7.length c3 out7, sol b S7, br B1 2 c1 [true, true]] from H1); clear H1; obtain ⟨gB, rfl⟩ := br_some H0.out (i := 2) rfl (by omega); have z0 := br_cell H0.out (i := 2) rfl 0 true rfl; have z1 := br_cell H0.out (i := 2) rfl 1 true rfl; clear tk t6_; have t7_ := Aside0.mk True.intro))
  go_ret
  exact ⟨rfl, H0.out.keeps.below⟩
end Go.Proofs.Ytckimhhncpnkpaa.H
/- made; the reference's Some. -/
namespace Go.Proofs.Ytckimhhncpnkpaa.H
set_option linter.unusedSimpArgs false
set_option linter.unusedVariables false
open Go.RowKit Go.Proofs.YtckimhhncpnkpaaW.PrintWords Go.Proofs.YtckimhhncpnkpaaW.PrintLast Go.Proofs.YtckimhhncpnkpaaW.PrintMore Go.Proofs.Ytckimhhncpnkpaa.Sep Go.Proofs.Ytckimhhncpnkpaa.Sat
theorem st_oldc {w0 w W0 : World} {U : Nat → Prop} {L : List Ch} {i : Nat} (h : St w0 U w L) (hi : L[i]? = some (old W0)) {a : Addr} {v : Value} (hc : W0.cell? a = some v) : w.cell? a = some v := by
  obtain ⟨fp, h1, _⟩ := h.sat hi
  exact old_cell h1 hc
theorem st_rr {w0 w W0 : World} {U : Nat → Prop} {L : List Ch} {i : Nat} (h : St w0 U w L) (hi : L[i]? = some (old W0)) {A : Option Addr} {vs : List Value} {ls : List (List Int)} (hr : RR W0 A vs ls) : RR w A vs ls :=
  ⟨fun j v hv => by
    obtain ⟨ad, e, hc⟩ := hr.cells j v hv
    exact ⟨ad, e, st_oldc h hi hc⟩, hr.rv.len, fun j l hl => by
    obtain ⟨B, c, h1, h2⟩ := hr.rv.at_ j l hl
    exact ⟨B, c, h1, h.lets hi (Lets.old h2)⟩⟩
theorem Rest_mono {Cs : List (List Int)} {n B B' N : Nat} {S : Sol} (h : Sat.Rest Cs n B N S) (hb : B ≤ B') : Sat.Rest Cs n B' N S := ⟨h.inv, h.st, by have := h.size; omega, h.vars, h.v0, h.vn, h.cv, h.nN, h.added⟩
theorem RestN_mono {Cs : List (List Int)} {B B' N : Nat} {S : Sol} (h : RestN Cs B N S) (hb : B ≤ B') : RestN Cs B' N S := by
  rcases h with ⟨n, h⟩ | ⟨h1, h2, h3, h4⟩
  · exact .inl ⟨n, Rest_mono h hb⟩
  · exact .inr ⟨h1, h2, by omega, h4⟩
/-- A chunk that lets a row of rows be read. -/
def LetsR (C : Ch) (A : Option Addr) (vs : List Value) (ls : List (List Int)) : Prop := ∀ (w : World) (fp : Nat → Prop), C.sat w fp → RR w A vs ls
theorem LetsR.old {W0 : World} {A : Option Addr} {vs : List Value} {ls : List (List Int)} (h : RR W0 A vs ls) : LetsR (old W0) A vs ls := fun w fp hs =>
  ⟨fun j v hv => by
    obtain ⟨ad, e, hc⟩ := h.cells j v hv
    exact ⟨ad, e, old_cell hs hc⟩, h.rv.len, fun j l hl => by
    obtain ⟨B, c, h1, h2⟩ := h.rv.at_ j l hl
    exact ⟨B, c, h1, Lets.old h2 w fp hs⟩⟩
theorem LetsR.get {C : Ch} {A : Option Addr} {vs : List Value} {ls : List (List Int)} (h : LetsR C A vs ls) {w : World} {fp : Nat → Prop} (hs : C.sat w fp) {j : Nat} {l : List Int} (hl : ls[j]? = some l) : ∃ ad B c, A = some ad ∧ Lets C B l ∧ ∀ (w : World) (fp : Nat → Prop), C.sat w fp → w.cell? (ad.add j) = some (.slice B l.length c) := by
  obtain ⟨B, c, h1, _⟩ := (h w fp hs).rv.at_ j l hl
  obtain ⟨ad, e, _⟩ := (h w fp hs).cells j _ h1
  refine ⟨ad, B, c, e, fun w' fp' hs' => ?_, fun w' fp' hs' => ?_⟩
  · obtain ⟨B', c', h2, h3⟩ := (h w' fp' hs').rv.at_ j l hl
    rw [h1] at h2
    cases h2
    exact h3
  · obtain ⟨ad', e', h3⟩ := (h w' fp' hs').cells j _ h1
    rw [e] at e'
    cases e'
    exact h3
theorem st_c {w0 w : World} {U : Nat → Prop} {L : List Ch} {i : Nat} {C : Ch} (h : St w0 U w L) (hi : L[i]? = some C) {a : Addr} {v : Value} (hc : ∀ (w : World) (fp : Nat → Prop), C.sat w fp → w.cell? a = some v) : w.cell? a = some v := by
  obtain ⟨fp, h1, _⟩ := h.sat hi
  exact hc w fp h1
set_option maxHeartbeats 4000000 in
set_option maxRecDepth 100000 in
theorem q_madeC {w : World} {C : Ch} {A : Option Addr} {c : Nat} {vs : List Value} {ls : List (List Int)} {N B0 : Nat} (hr : LetsR C A vs ls) (hl : ls.length ≤ 1000) (hll : ∀ l ∈ ls, l.length ≤ 40) (hx : ∀ l ∈ goods ls, ∀ x ∈ l, x.natAbs < N) (hN : 1 ≤ N ∧ N ≤ 100000) (hB : miss N [] ≤ B0) (hB2 : B0 + 1000 ≤ 1000000000) :
    Does Try.prog 10 #[.slice A ls.length c] w [C] fun e L => ∃ b S, e = .returned (.tuple #[.pointer (some ⟨b, 0, none⟩), .bool true]) ∧ L = [sol b S, C] ∧ RestN (goods ls) (B0 + ls.length) N S := by
  have mixed : Try.prog.follows Departure.mixedOrders = true := by kernel_rfl
  refine does_intro fun U hs => ?_
  have H0 := Aside0.mk hs
  have HR := Aside0.mk hr
  have HL := Aside0.mk hl
  have HLL := Aside0.mk hll
  have HGX := Aside0.mk hx
  have HN := Aside0.mk hN
  have HB := Aside0.mk (And.intro hB hB2)
  clear hs hr hl hll hx hN hB hB2
  go_enter Try.func10, Try.ntmps10
  go_wp2_with (first
    | (go_at_call 21; (refine (St.does (L1 := []) (L2 := [C]) H0.out (q_NewF _)).mono ?_); rintro e w1 ⟨L1', ⟨b, rfl, rfl⟩, H1⟩; clear H0; have H0 := Aside0.mk (show St w U w1 [sol b fresh, C] from H1); clear H1))
  go_loopg [6] (ls.length + 1) (fun kq v6 wr => ∃ (i : Nat) (S : Sol), v6 = .int .i64 (i : Int) ∧ Aside0 (i ≤ ls.length) ∧ Aside0 (ls.length - i < kq) ∧ Aside0 (RestN (goods (ls.take i)) (B0 + i) N S) ∧ Aside0 (St w U wr [sol b S, C]))
  case atStart => exact ⟨0, fresh, rfl, ⟨Nat.zero_le _⟩, ⟨by omega⟩, ⟨.inr ⟨rfl, rfl, HB.out.1, HN.out.1⟩⟩, H0⟩
  case round =>
    clear H0
    obtain ⟨i, S, rfl, HI, HQ, HRN, H0⟩ := hrel
    cases gk with
    | zero => exact absurd HQ.out (by have := HI.out; omega)
    | succ k1 =>
    by_cases hlt : i < ls.length
    · obtain ⟨l, hx⟩ : ∃ l, ls[i]? = some l := ⟨_, List.getElem?_eq_getElem hlt⟩
      obtain ⟨fpC, hsC, _⟩ := H0.out.sat (i := 1) rfl
      obtain ⟨ad, B1, c1, e, hrd, hy0⟩ := HR.out.get hsC hx
      have hx0 := st_c H0.out (i := 1) rfl hy0
      clear hsC
      subst e
      have HX := Aside0.mk hx
      have HX0 := Aside0.mk hy0
      have HRD := Aside0.mk hrd
      have HGS := Aside0.mk (goods_snoc hx)
      have HLT := Aside0.mk hlt
      have HIB := Aside0.mk (show B0 + i ≤ 1000000000 ∧ i < 1000 by have := HB.out.2; have := HL.out; omega)
      have hL := HL.out
      have hw : wrap64 ((i : Int) + 1) = ((i + 1 : Nat) : Int) := by unfold wrap64; omega
      have HW := Aside0.mk hw
      clear hw
      have c1' : decide ((i : Int) < (ls.length : Int)) = true := decide_eq_true (by omega)
      have c2' : decide (i < ls.length) = true := decide_eq_true hlt
      have p1 : (0 ≤ (i : Int)) = True := eq_true (by omega)
      have q1 : ((i : Int) < (ls.length : Int)) = True := eq_true (by omega)
      have q2 : (i < ls.length) = True := eq_true hlt
      have q3 : wrap64 ((i : Int) + 1) = (i : Int) + 1 := by unfold wrap64; omega
      by_cases hv : l.all isLit = true
      · have hlit : ∀ x ∈ l, isLit x = true := List.all_eq_true.1 hv
        have hg : l ∈ goods ls := List.mem_filter.2 ⟨List.mem_of_getElem? hx, hv⟩
        obtain ⟨S2, n2, hR2, hD⟩ := q_AddR (c := c1) HRN.out HN.out.2 HIB.out.1 hrd hlit (HGX.out l hg) (by have := goods_len (ls.take i); rw [List.length_take] at this; have := HIB.out.2; omega) (by have := HLL.out l (List.mem_of_getElem? hx); omega)
        have HD := Aside0.mk hD
        have HR2 := Aside0.mk hR2
        have HV := Aside0.mk hv
        clear hv hx hrd hy0 hlit hg hD hR2
        go_wp2_with (first
          | (go_at_call 18; have hD := HD.out wr b; (refine (St.does (L1 := [sol b S, C]) (L2 := []) H0.out hD).mono ?_); rintro e w1 ⟨L1', ⟨rfl, rfl⟩, H1⟩; clear H0 hD hx0; have H0 := Aside0.mk (show St w U w1 [sol b S2, C] from H1); clear H1; have hx0 := st_c H0.out (i := 1) rfl HX0.out)
          | (go_at_call 11; (refine (q_Literals (H0.out.lets (i := 1) rfl HRD.out) (by have := HLL.out l (List.mem_of_getElem? HX.out); omega)).mono ?_); rintro e w2 ⟨rfl, hb1⟩; have H1 := H0.out.quiet hb1; clear H0 hx0 hb1; have H0 := Aside0.mk H1; clear H1; rw [HV.out]))
        go_roundg k1
        case measure => have := HLT.out; have := HQ.out; omega
        case rel => exact ⟨i + 1, S2, by go_num, ⟨HLT.out⟩, ⟨by have := HLT.out; have := HQ.out; omega⟩, ⟨by rw [HGS.out, if_pos HV.out]; exact .inl ⟨n2, HR2.out⟩⟩, H0⟩
      · have HV := Aside0.mk (Bool.eq_false_iff.2 hv)
        clear hv hx hrd hy0
        go_wp2_with (first
          | (go_at_call 18; (refine (q_AddBad (H0.out.lets (i := 1) rfl HRD.out) (by have := HLL.out l (List.mem_of_getElem? HX.out); omega) HV.out).mono ?_); rintro e w1 ⟨rfl, hb1⟩; have H1 := H0.out.quiet hb1; clear H0 hx0 hb1; have H0 := Aside0.mk H1; clear H1; have hx0 := st_c H0.out (i := 1) rfl HX0.out)
          | (go_at_call 11; (refine (q_Literals (H0.out.lets (i := 1) rfl HRD.out) (by have := HLL.out l (List.mem_of_getElem? HX.out); omega)).mono ?_); rintro e w2 ⟨rfl, hb1⟩; have H1 := H0.out.quiet hb1; clear H0 hx0 hb1; have H0 := Aside0.mk H1; clear H1; rw [HV.out]))
        go_roundg k1
        case measure => have := HLT.out; have := HQ.out; omega
        case rel => exact ⟨i + 1, S, by go_num, ⟨HLT.out⟩, ⟨by have := HLT.out; have := HQ.out; omega⟩, ⟨by rw [HGS.out, if_neg (by rw [HV.out]; decide), List.append_nil]; exact RestN_mono HRN.out (by omega)⟩, H0⟩
    · have he : i = ls.length := by have := HI.out; omega
      subst he
      have hv := HRN.out
      rw [List.take_length] at hv
      have HV := Aside0.mk hv
      have c1' : decide ((ls.length : Int) < (ls.length : Int)) = false := decide_eq_false (by omega)
      have c2' : decide (ls.length < ls.length) = false := decide_eq_false (by omega)
      clear hv hlt
      go_wp2_with fail
      refine bodyPost_ret (results_tmp2 (by rfl) _ _ _) rfl ?_
      exact ⟨_, ⟨b, S, rfl, rfl, HV.out⟩, H0.out⟩
theorem q_made {W0 w : World} {A : Option Addr} {c : Nat} {vs : List Value} {ls : List (List Int)} {N B0 : Nat} (hr : RR W0 A vs ls) (hl : ls.length ≤ 1000) (hll : ∀ l ∈ ls, l.length ≤ 40) (hx : ∀ l ∈ goods ls, ∀ x ∈ l, x.natAbs < N) (hN : 1 ≤ N ∧ N ≤ 100000) (hB : miss N [] ≤ B0) (hB2 : B0 + 1000 ≤ 1000000000) :
    Does Try.prog 10 #[.slice A ls.length c] w [old W0] fun e L => ∃ b S, e = .returned (.tuple #[.pointer (some ⟨b, 0, none⟩), .bool true]) ∧ L = [sol b S, old W0] ∧ RestN (goods ls) (B0 + ls.length) N S := q_madeC (LetsR.old hr) hl hll hx hN hB hB2
/-! ### Some -/
/-- A row of truths as a number, and the next one. -/
def val : List Bool → Nat
  | [] => 0
  | b :: r => (if b then 1 else 0) + 2 * val r
end Go.Proofs.Ytckimhhncpnkpaa.H
/- Truths as rows; the greatest variable. -/
namespace Go.Proofs.Ytckimhhncpnkpaa.H
set_option linter.unusedSimpArgs false
set_option linter.unusedVariables false
open Go.RowKit Go.Proofs.YtckimhhncpnkpaaW.PrintWords Go.Proofs.YtckimhhncpnkpaaW.PrintLast Go.Proofs.YtckimhhncpnkpaaW.PrintMore Go.Proofs.Ytckimhhncpnkpaa.Sep Go.Proofs.Ytckimhhncpnkpaa.Sat
theorem absW_lit {x : Int} (h : isLit x = true) : absW x = (x.natAbs : Int) := by
  obtain ⟨h1, h2, h3⟩ := isLit_iff.1 h
  unfold absW
  by_cases hx : x < 0
  · rw [if_pos hx]; unfold wrap64; omega
  · rw [if_neg hx]; omega
theorem mst1_ge : ∀ (l : List Int) (n : Int), n ≤ mst1 n l ∧ ∀ x ∈ l, absW x ≤ mst1 n l
  | [], n => ⟨Int.le_refl _, fun x h => by cases h⟩
  | y :: r, n => by
    obtain ⟨h1, h2⟩ := mst1_ge r (mst0 n y)
    have h3 : n ≤ mst0 n y ∧ absW y ≤ mst0 n y := by unfold mst0; split <;> omega
    have e : mst1 n (y :: r) = mst1 (mst0 n y) r := rfl
    rw [e]
    refine ⟨by omega, fun x hx => ?_⟩
    rcases List.mem_cons.1 hx with rfl | hx
    · omega
    · exact h2 x hx
theorem mst_ge : ∀ (ls : List (List Int)) (n : Int), n ≤ mst n ls ∧ ∀ l ∈ ls, ∀ x ∈ l, absW x ≤ mst n ls
  | [], n => ⟨Int.le_refl _, fun x h => by cases h⟩
  | l :: r, n => by
    obtain ⟨h1, h2⟩ := mst_ge r (mst1 n l)
    obtain ⟨h3, h4⟩ := mst1_ge l n
    have e : mst n (l :: r) = mst (mst1 n l) r := rfl
    rw [e]
    refine ⟨by omega, fun l' hl x hx => ?_⟩
    rcases List.mem_cons.1 hl with rfl | hl
    · have := h4 x hx; omega
    · exact h2 l' hl x hx
theorem mst1_maxVar : ∀ (l : List Int) (n : Int), (∀ x ∈ l, isLit x = true) → mst1 n l = maxVar l n
  | [], n, _ => rfl
  | y :: r, n, h => by
    have hy := absW_lit (h y List.mem_cons_self)
    have e1 : mst1 n (y :: r) = mst1 (mst0 n y) r := rfl
    have e2 : maxVar (y :: r) n = maxVar r (max n (y.natAbs : Int)) := rfl
    rw [e1, e2, mst1_maxVar r _ (fun x hx => h x (List.mem_cons_of_mem _ hx))]
    congr 1
    unfold mst0
    rw [hy]
    omega
theorem mst_maxVar : ∀ (ls : List (List Int)) (n : Int), (∀ l ∈ ls, ∀ x ∈ l, isLit x = true) → mst n ls = ls.foldl (fun v c => maxVar c v) n
  | [], n, _ => rfl
  | l :: r, n, h => by
    have e1 : mst n (l :: r) = mst (mst1 n l) r := rfl
    rw [e1, mst_maxVar r _ (fun x hx => h x (List.mem_cons_of_mem _ hx)), mst1_maxVar l n (h l List.mem_cons_self)]
    rfl
theorem goods_lit {ls : List (List Int)} : ∀ l ∈ goods ls, ∀ x ∈ l, isLit x = true := fun l hl x hx => List.all_eq_true.1 (List.mem_filter.1 hl).2 x hx
/-- Each literal's variable, where few are used. -/
theorem few_var {ls : List (List Int)} {am : List Int} {cl v : Int} (h : Few ls am cl v) {l : List Int} (hl : l ∈ ls ∨ l = am) {x : Int} (hx : x ∈ l) (hlit : isLit x = true) : (x.natAbs : Int) ≤ v := by
  have := (mst_ge (ls ++ [am]) 0).2 l (by rcases hl with h | h; exact List.mem_append.2 (.inl h); exact List.mem_append.2 (.inr (List.mem_singleton.2 h))) x hx
  rw [absW_lit hlit] at this
  have := h.most
  omega
theorem getD_get {bs : List Bool} : ∀ v, v < bs.length → bs[v]? = some ((fun v => bs.getD (v - 1) false) (v + 1)) := fun v hv => by
  show bs[v]? = some (bs.getD (v + 1 - 1) false)
  rw [Nat.add_sub_cancel, List.getD_eq_getElem?_getD, List.getElem?_eq_getElem hv]; rfl
theorem fold_bound : ∀ (ls : List (List Int)) (n b : Int), n ≤ b → (∀ l ∈ ls, ∀ x ∈ l, (x.natAbs : Int) ≤ b) → ls.foldl (fun v c => maxVar c v) n ≤ b
  | [], n, b, h, _ => h
  | l :: r, n, b, h, hx => by
    rw [List.foldl_cons]
    exact fold_bound r _ b (maxVar_bound l n b h (hx l List.mem_cons_self)) (fun l' hl => hx l' (List.mem_cons_of_mem _ hl))
theorem good_most {ls : List (List Int)} {am : List Int} {cl : Int} {v : Nat} (h : Few ls am cl v) (ha : am.all isLit = true) :
    ∃ n : Nat, mst 0 (goods ls ++ [am]) = (n : Int) ∧ n ≤ v ∧ (∀ l ∈ goods ls, ∀ x ∈ l, x ≠ 0 ∧ x.natAbs ≤ n) ∧ ∀ x ∈ am, x ≠ 0 ∧ x.natAbs ≤ n := by
  have hl : ∀ l ∈ goods ls ++ [am], ∀ x ∈ l, isLit x = true := fun l hl x hx => by
    rcases List.mem_append.1 hl with h1 | h1
    · exact goods_lit l h1 x hx
    · rw [List.mem_singleton.1 h1] at hx; exact List.all_eq_true.1 ha x hx
  obtain ⟨h0, hge⟩ := mst_ge (goods ls ++ [am]) 0
  have hle : mst 0 (goods ls ++ [am]) ≤ v := by
    rw [mst_maxVar _ _ hl]
    refine fold_bound _ _ _ (by omega) fun l h1 x hx => ?_
    rcases List.mem_append.1 h1 with h2 | h2
    · exact few_var h (.inl (List.mem_filter.1 h2).1) hx (hl l h1 x hx)
    · exact few_var h (.inr (List.mem_singleton.1 h2)) hx (hl l h1 x hx)
  have each : ∀ l ∈ goods ls ++ [am], ∀ x ∈ l, x ≠ 0 ∧ x.natAbs ≤ (mst 0 (goods ls ++ [am])).toNat := fun l h1 x hx => by
    have h2 := hge l h1 x hx
    rw [absW_lit (hl l h1 x hx)] at h2
    exact ⟨(isLit_iff.1 (hl l h1 x hx)).1, by omega⟩
  exact ⟨(mst 0 (goods ls ++ [am])).toNat, by omega, by omega, fun l h1 => each l (List.mem_append.2 (.inl h1)), each am (List.mem_append.2 (.inr (List.mem_singleton.2 rfl)))⟩
end Go.Proofs.Ytckimhhncpnkpaa.H
/- A law's arguments, as rows that are read. -/
namespace Go.Proofs.Ytckimhhncpnkpaa.H
set_option linter.unusedVariables false
open Go.RowKit Go.Proofs.YtckimhhncpnkpaaW.PrintWords Go.Proofs.YtckimhhncpnkpaaW.PrintLast Go.Proofs.YtckimhhncpnkpaaW.PrintMore Go.Proofs.Ytckimhhncpnkpaa.Sep Go.Proofs.Ytckimhhncpnkpaa.Sat
theorem add_two (ad : Addr) (j : Nat) : ad.add (j * 1 + 0) = ad.add j := by rw [Nat.mul_one, Nat.add_zero]
theorem rd_of_C {w : World} {A : Option Addr} {n : Nat} {l : List Int} (h : Kd.C (Kd.int .i64) w A n l) : Rd w A l := fun j x hx => by
  have hj := (List.getElem?_eq_some_iff.1 hx).1
  obtain ⟨h1, _, h3⟩ := h
  obtain ⟨ad, e, h4⟩ := h3 (by omega)
  obtain ⟨cs, h5, h6, h7⟩ := h4 j x hx
  have h6 : cs = [.int .i64 x] := h6
  subst h6
  have := h7 0 _ rfl
  rw [show (Kd.int .i64).sz = 1 from rfl, add_two] at this
  exact ⟨ad, e, this⟩
theorem rr_of_C {w : World} {A : Option Addr} {n e : Nat} {ls : List (List Int)} (h : Kd.C (Kd.slice e (Kd.int .i64)) w A n ls) : ∃ vs, RR w A vs ls := by
  obtain ⟨h1, _, h3⟩ := h
  by_cases h0 : ls = []
  · subst h0
    exact ⟨[], ⟨fun j v hv => (by cases hv), ⟨rfl, fun j l hl => (by cases hl)⟩⟩⟩
  have hpos : 0 < ls.length := List.length_pos_iff.2 h0
  obtain ⟨ad, e, h4⟩ := h3 (by omega)
  have each : ∀ j, j < ls.length → ∃ v : Value, w.cell? (ad.add j) = some v ∧ ∀ l, ls[j]? = some l → ∃ B c, v = .slice B l.length c ∧ Rd w B l := fun j hj => by
    obtain ⟨cs, h5, ⟨B, c, rfl, _, hc⟩, h7⟩ := h4 j ls[j] (List.getElem?_eq_getElem hj)
    have := h7 0 _ rfl
    rw [show (Kd.slice _ (Kd.int .i64)).sz = 1 from rfl, add_two] at this
    refine ⟨_, this, fun l hl => ?_⟩
    rw [List.getElem?_eq_getElem hj] at hl
    cases hl
    exact ⟨B, c, rfl, rd_of_C hc⟩
  haveI : Inhabited Value := ⟨undef⟩
  obtain ⟨q, hq⟩ := Go.Deep.choose_lt each
  refine ⟨(List.range ls.length).map q, ⟨fun j v hv => ?_, ⟨by rw [List.length_map, List.length_range], fun j l hl => ?_⟩⟩⟩
  · rw [List.getElem?_map] at hv
    obtain ⟨j', hj', rfl⟩ := Option.map_eq_some_iff.1 hv
    obtain ⟨hjl, rfl⟩ := List.getElem?_eq_some_iff.1 hj'
    rw [List.length_range] at hjl
    rw [List.getElem_range]
    exact ⟨ad, e, (hq j hjl).1⟩
  · have hj := (List.getElem?_eq_some_iff.1 hl).1
    obtain ⟨B, c, h5, h6⟩ := (hq j hj).2 l hl
    exact ⟨B, c, by rw [List.getElem?_map, List.getElem?_range hj]; show some (q j) = _; rw [h5], h6⟩
end Go.Proofs.Ytckimhhncpnkpaa.H
