import Derived.Test.YtlfpnohpcemkgaaDoorWWords
import Derived.Test.YtlfpnohpcemkgaaDoorWLast
import Derived.Test.YtlfpnohpcemkgaaDoorWMore
import Derived.Test.YtlfpnohpcemkgaaDoorProg
import Derived.Lib.Strings
import Derived.Lib.Slices
import Derived.Lib.Walk
import Derived.WalkKit
import Derived.Outline
import Derived.Laws.Bits64
import Derived.WalkSpells
import Derived.WalkLawsBesides
import Derived.Laws.NewBlocks
import Derived.Lib.ConvBytes
import Derived.Laws.MakeOwn
import Derived.KernelRfl
/- nat.nine, in the printed shape: nine digits. -/
namespace Go.Proofs.YtlfpnohpcemkgaaDoor.H
open Go.RowKit Go.Proofs.YtlfpnohpcemkgaaDoorW.PrintWords Go.Proofs.YtlfpnohpcemkgaaDoorW.PrintLast

/-- The last digits of a number. -/
def nineL : Nat → Nat → List UInt8
  | 0, _ => []
  | k + 1, u => nineL k (u / 10) ++ [UInt8.ofNat (48 + u % 10)]
def nat_nine.f (n : Int) : Option ByteArray := if 0 ≤ n ∧ n < 18446744073709551616 then some ⟨(nineL 9 n.toNat).toArray⟩ else none
theorem len9 : Tryd.prog.arrayLen 67 = 9 := by kernel_rfl
theorem slice9 (g : Nat) (W : World) :
    (Instr.sliceAt 67 (.pointer (some ⟨g, 0, none⟩)) none none none).run Tryd.prog W = .ok (.slice (some ⟨g, 0, none⟩) 9 9) W := by
  have hs : ∀ w, (sizeOf (Tryd.prog.elem 67)).run Tryd.prog w = .ok 1 w := fun w => by kernel_rfl
  have hu : Tryd.prog.underlying 67 = some (.array (Tryd.prog.arrayLen 67) (Tryd.prog.elem 67)) := by kernel_rfl
  rw [run_sliceAt_array_all W 67 ⟨g, 0, none⟩ hu, hs]
  simp only [Result.andThen, slicedAt, len9]
  rfl
theorem conv9 (g : Nat) (L : List Int) (hL : L.length = 9) (W : World) (hb : W.heap[g]? = some (.cells (L.map (Value.int .u8)).toArray 67 (0, 0))) :
    (convert 54 9 (.slice (some ⟨g, 0, none⟩) 9 9)).run Tryd.prog W = .ok (.string (strOfNums L)) W := by
  refine Kd.C_string Tryd.underlying54 Tryd.underlying5 Tryd.underlying9 ?_
  refine ⟨by simp [hL], by omega, fun _ => ⟨_, rfl, fun i p hp => ⟨[.int .u8 p], rfl, rfl, fun q u hq => ?_⟩⟩⟩
  have hq0 : q = 0 := by
    rcases q with _ | q
    · rfl
    · simp at hq
  subst hq0
  have hu : Value.int .u8 p = u := by simpa using hq
  subst hu
  have e : (⟨g, 0, none⟩ : Addr).add (i * (Kd.int .u8).sz + 0) = ⟨g, i, none⟩ := by
    rw [add_plain]
    simp [Kd.int, Kd.scalar]
  rw [e, blk_cell hb]
  simp [hp]
set_option maxHeartbeats 1000000 in
set_option maxRecDepth 100000 in
theorem nat_nine.calls (a0 : Int) (r : ByteArray) (w : World) (h : nat_nine.f a0 = some r) :
    Calls Tryd.prog 46 #[.int .u64 a0] w fun e w' => e = .returned (.string r) ∧ Below w.heap.size w w' := by
  unfold nat_nine.f at h
  split at h
  case isFalse => cases h
  case isTrue hn =>
  obtain ⟨n, rfl⟩ : ∃ n : Nat, a0 = (n : Int) := ⟨a0.toNat, by omega⟩
  have HRES := Aside0.mk (Option.some.inj h)
  have hn64 : n < 18446744073709551616 := by omega
  clear h hn
  rw [Int.toNat_natCast] at HRES
  go_enter Tryd.func46, Tryd.ntmps46
  go_wp2
  have hz0 : (w.alloc (Obj.cells #[Value.int IntKind.u8 0, Value.int IntKind.u8 0, Value.int IntKind.u8 0, Value.int IntKind.u8 0, Value.int IntKind.u8 0, Value.int IntKind.u8 0, Value.int IntKind.u8 0, Value.int IntKind.u8 0, Value.int IntKind.u8 0] 67)).heap[w.heap.size]? = some (.cells ((List.replicate 9 (0 : Int)).map (Value.int .u8)).toArray 67 (0, 0)) := (heap_alloc_new w _).trans (by kernel_rfl)
  have HZ := Aside0.mk hz0
  clear hz0
  go_loopw [0, 4] (fun v0 v4 wr => ∃ (i : Int) (j u : Nat) (L : List Int), v0 = .int .u64 (u : Int) ∧ v4 = .int .i64 i ∧ Aside0 (i = (j : Int) - 1 ∧ j ≤ 9 ∧ u < 18446744073709551616) ∧ Aside0 (nineL j u ++ (L.drop j).map (fun x => UInt8.ofNat x.toNat) = nineL 9 n ∧ L.length = 9) ∧ Aside0 (wr.heap[w.heap.size]? = some (.cells (L.map (Value.int .u8)).toArray 67 (0, 0))) ∧ Aside0 (Below w.heap.size w wr)) (fun _ v4 _ => (intOf v4 + 1).toNat)
  case atStart => exact ⟨8, 9, n, List.replicate 9 0, rfl, rfl, ⟨rfl, by omega, hn64⟩, ⟨by simp, by simp⟩, HZ, ⟨below_alloc (Below.refl _ _) _⟩⟩
  case round =>
    obtain ⟨i, j, u, L, rfl, rfl, HA, HE, HH, HB⟩ := hrel
    obtain ⟨hi, hj, hu⟩ := HA.out
    have hL := HE.out.2
    cases j with
    | zero =>
      have e0 : decide (0 ≤ i) = false := decide_eq_false (by omega)
      have hsl := slice9 w.heap.size wr
      have hcv := conv9 w.heap.size L hL wr HH.out
      go_wp2
      go_ret
      refine ⟨?_, HB.out⟩
      have e : strOfNums L = r := by
        rw [← HRES.out, ← HE.out.1]
        rfl
      rw [e]
      rfl
    | succ j =>
      obtain rfl : i = (j : Int) := by omega
      have hcell : wr.cell? ⟨w.heap.size, j, none⟩ = some (.int .u8 (L.getD j 0)) := (blk_cell HH.out j).trans (by have hl : j < L.length := (by omega); simp [List.getElem?_eq_getElem hl])
      have hfro : wr.frozen? ⟨w.heap.size, j, none⟩ = false := blk_frozen HH.out j
      have hj8 : j ≤ 8 := by omega
      clear hi hj hL
      have hl9 := Aside0.mk HE.out.2
      have heq := Aside0.mk HE.out.1
      go_wp2
      refine ⟨⟨(j : Int) - 1, j, u / 10, L.set j (48 + (u : Int) % 10), by go_num, rfl, ⟨rfl, by omega, by omega⟩, ⟨?_, by rw [List.length_set]; exact hl9.out⟩, ⟨?_⟩, ⟨Below.setCell HB.out (Nat.le_refl _) _⟩⟩, by simp [intOf]⟩
      · rw [← heq.out]
        have hl : j < L.length := by have := hl9.out; omega
        have hd : (L.set j (48 + (u : Int) % 10)).drop j = (48 + (u : Int) % 10) :: L.drop (j + 1) := by
          rw [List.drop_eq_getElem_cons (by simpa using hl)]
          simp [List.drop_set_of_lt]
        rw [hd]
        simp only [nineL, List.map_cons, List.append_assoc, List.singleton_append]
        congr 3
      · refine (blk_set HH.out j _).trans ?_
        simp [List.map_set]
end Go.Proofs.YtlfpnohpcemkgaaDoor.H
