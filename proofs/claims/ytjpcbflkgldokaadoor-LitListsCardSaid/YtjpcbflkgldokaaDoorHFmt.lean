import Derived.Test.YtjpcbflkgldokaaDoorHEsc
import Derived.Outline
import Derived.Laws.Bits64
import Derived.WalkSpells
import Derived.WalkLawsBesides
import Derived.Laws.NewBlocks
import Derived.Lib.ConvBytes
import Derived.Laws.MakeOwn
/- internal/strconv.formatBits and strconv.FormatInt at base 16, for numbers from 0 to 2^32: by a walk. -/
namespace Go.Proofs.YtjpcbflkgldokaaDoor.H
open Go.RowKit Go.Proofs.YtjpcbflkgldokaaDoorW.PrintWords Go.Proofs.YtjpcbflkgldokaaDoorW.PrintLast

def hexd (n : Nat) : UInt8 := [48, 49, 50, 51, 52, 53, 54, 55, 56, 57, 97, 98, 99, 100, 101, 102].getD n 0
def hexF : Nat → Nat → List UInt8
  | 0, _ => []
  | k + 1, n => if n < 16 then [hexd n] else hexF k (n / 16) ++ [hexd (n % 16)]
theorem and15 (x : Int) (h0 : 0 ≤ x) (h1 : x < 4294967296) : bits BinOp.and IntKind.u64 x 15 = x % 16 :=
  bits_mask .u64 32 (by decide) (fun n h0 h1 => by rw [IntKind.wrap_u64]; omega) 4 (by decide) x h0 (by omega)
theorem dig16 (d : Nat) (hd : d < 16) : ∀ h, (((⟨#[48, 49, 50, 51, 52, 53, 54, 55, 56, 57, 97, 98, 99, 100, 101, 102, 103, 104, 105, 106, 107, 108, 109, 110, 111, 112, 113, 114, 115, 116, 117, 118, 119, 120, 121, 122]⟩ : ByteArray)[d]'h).toNat : Int) = ((hexd d).toNat : Int) := by
  intro h
  have a : ∀ d : Fin 16, (([48, 49, 50, 51, 52, 53, 54, 55, 56, 57, 97, 98, 99, 100, 101, 102, 103, 104, 105, 106, 107, 108, 109, 110, 111, 112, 113, 114, 115, 116, 117, 118, 119, 120, 121, 122] : List UInt8).getD d.val 0) = hexd d.val := by decide
  have b := a ⟨d, hd⟩
  simp only at b
  rw [← b]
  rw [List.getD_eq_getElem?_getD, List.getElem?_eq_getElem (by simp; omega)]
  rfl
theorem len79 : Tryd.prog.arrayLen 79 = 65 := by kernel_rfl
theorem slice65 (g j : Nat) (hj : j < 65) (W : World) :
    (Instr.sliceAt 79 (.pointer (some ⟨g, 0, none⟩)) (some (.int .i64 (j : Int))) none none).run Tryd.prog W = .ok (.slice (some ⟨g, j, none⟩) (65 - j) (65 - j)) W := by
  have hs : ∀ w, (sizeOf (Tryd.prog.elem 79)).run Tryd.prog w = .ok 1 w := fun w => by kernel_rfl
  have hu : Tryd.prog.underlying 79 = some (.array (Tryd.prog.arrayLen 79) (Tryd.prog.elem 79)) := by kernel_rfl
  rw [run_sliceAt_array_l W 79 ⟨g, 0, none⟩ hu .i64 j (by omega) (by rw [len79]; omega), hs]
  simp only [Result.andThen, slicedAt, len79]
  rw [if_neg (by omega)]
  simp only [Nat.mul_one, Int.toNat_natCast]
  rw [add_plain g j]
theorem conv65 (g j : Nat) (L : List Int) (hL : L.length = 65) (hj : j < 65) (W : World) (hb : W.heap[g]? = some (.cells (L.map (Value.int .u8)).toArray 79 (0, 0))) :
    (convert 46 9 (.slice (some ⟨g, j, none⟩) (65 - j) (65 - j))).run Tryd.prog W = .ok (.string (strOfNums (L.drop j))) W := by
  refine Kd.C_string Tryd.underlying46 Tryd.underlying5 Tryd.underlying9 ?_
  refine ⟨by simp [hL], by omega, fun _ => ⟨_, rfl, fun i p hp => ⟨[.int .u8 p], rfl, rfl, fun q u hq => ?_⟩⟩⟩
  have hq0 : q = 0 := by
    rcases q with _ | q
    · rfl
    · simp at hq
  subst hq0
  have hu : Value.int .u8 p = u := by simpa using hq
  subst hu
  have e : (⟨g, j, none⟩ : Addr).add (i * (Kd.int .u8).sz + 0) = ⟨g, j + i, none⟩ := by
    simp [Addr.add, Kd.int, Kd.scalar]
  rw [e, blk_cell hb]
  have hp' : L[j + i]? = some p := by simpa [List.getElem?_drop] using hp
  simp [hp']
theorem drop_set_self {α : Type} (L : List α) (j : Nat) (x : α) (hj : j < L.length) : (L.set j x).drop j = x :: L.drop (j + 1) := by
  rw [List.drop_eq_getElem_cons (by simpa using hj)]
  simp [List.drop_set]
theorem ofNat_hexd (u : Nat) : UInt8.ofNat ((hexd u).toNat : Int).toNat = hexd u := by simp
theorem hexF_small (k u : Nat) (hk : 1 ≤ k) (hu : u < 16) : hexF k u = [hexd u] := by
  obtain ⟨k, rfl⟩ : ∃ m, k = m + 1 := ⟨k - 1, by omega⟩
  simp [hexF, hu]
theorem fin65 (L : List Int) (j u k : Nat) (X : List UInt8) (hj : j < L.length) (hk : 1 ≤ k) (hu : u < 16) (h : hexF k u ++ (L.drop (j + 1)).map (fun x => UInt8.ofNat x.toNat) = X) :
    strOfNums ((L.set j ((hexd u).toNat : Int)).drop j) = ⟨X.toArray⟩ := by
  rw [drop_set_self L j _ hj, ← h, hexF_small k u hk hu]
  unfold strOfNums
  rw [List.map_cons, ofNat_hexd]
  rfl
theorem round65 (L : List Int) (j u k : Nat) (X : List UInt8) (hj : j + 1 < L.length) (hu : ¬ u < 16) (h : hexF (k + 1) u ++ (L.drop (j + 1 + 1)).map (fun x => UInt8.ofNat x.toNat) = X) :
    hexF k (u / 16) ++ ((L.set (j + 1) ((hexd (u % 16)).toNat : Int)).drop (j + 1)).map (fun x => UInt8.ofNat x.toNat) = X := by
  rw [drop_set_self L (j + 1) _ hj, ← h, List.map_cons, ofNat_hexd]
  simp [hexF, hu]
set_option maxHeartbeats 1000000 in
set_option maxRecDepth 100000 in
theorem formatBits_16 (n : Nat) (hn : n < 4294967296) (w : World) (hG : Glob w) :
    Calls Tryd.prog 44 #[.slice none 0 0, .int .u64 n, .int .i64 16, .bool false, .bool false] w fun e w' => e = .returned (.tuple #[.slice none 0 0, .string ⟨(hexF 8 n).toArray⟩]) ∧ Below w.heap.size w w' := by
  have HG := Aside0.mk hG
  clear hG
  go_enter Tryd.func44, Tryd.ntmps44
  go_wp2_with (first | (go_at_call 50; refine (pow2_16 _).mono ?_; rintro e w' ⟨rfl, rfl⟩) | (go_at_call 51; refine (tz_16 _ (Glob.below HG.out (below_alloc (Below.refl _ _) _))).mono ?_; rintro e w' ⟨rfl, rfl⟩))
  have hz0 : (w.alloc (Obj.cells Tryd.zeroCells79 79)).heap[w.heap.size]? = some (.cells ((List.replicate 65 (0 : Int)).map (Value.int .u8)).toArray 79 (0, 0)) := (heap_alloc_new w _).trans (by kernel_rfl)
  have HZ := Aside0.mk hz0
  clear hz0
  have hnk := Aside0.mk hn
  clear hn
  go_loopw [1, 13] (fun v1 v13 wr => ∃ (j u kf : Nat) (L : List Int), v1 = .int .u64 (u : Int) ∧ v13 = .int .i64 ((j : Int) + 1) ∧ Aside0 (hexF kf u ++ (L.drop (j + 1)).map (fun x => UInt8.ofNat x.toNat) = hexF 8 n ∧ u < 16 ^ kf ∧ 1 ≤ kf ∧ kf ≤ 8 ∧ j = 56 + kf ∧ L.length = 65) ∧ Aside0 (wr.heap[w.heap.size]? = some (.cells (L.map (Value.int .u8)).toArray 79 (0, 0))) ∧ Aside0 (Below w.heap.size w wr)) (fun v1 _ _ => (intOf v1).toNat)
  case atStart => exact ⟨64, n, 8, List.replicate 65 0, rfl, rfl, ⟨by simp, by have := hnk.out; omega, by omega, by omega, by omega, by simp⟩, HZ, ⟨below_alloc (Below.refl _ _) _⟩⟩
  case round =>
    obtain ⟨j, u, kf, L, rfl, rfl, HA, HH, HB⟩ := hrel
    obtain ⟨heq, hu, hk1, hk8, hj, hL⟩ := HA.out
    have HE := Aside0.mk heq
    have HJ := Aside0.mk hj
    have HL := Aside0.mk hL
    have HU := Aside0.mk hu
    clear heq hj hL hu HA
    have hj1 : 57 ≤ j := by have := HJ.out; omega
    have hj2 : j ≤ 64 := by have := HJ.out; omega
    have hu32 : u < 4294967296 := by
      have := HU.out
      have : (16 : Nat) ^ kf ≤ 16 ^ 8 := Nat.pow_le_pow_right (by omega) hk8
      omega
    have hcell : wr.cell? ⟨w.heap.size, j, none⟩ = some (.int .u8 (L.getD j 0)) := (blk_cell HH.out j).trans (by have hl : j < L.length := (by have := HL.out; omega); simp [List.getElem?_eq_getElem hl])
    have hfro : wr.frozen? ⟨w.heap.size, j, none⟩ = false := blk_frozen HH.out j
    by_cases h16 : u < 16
    · have hdg := dig16 u h16
      have hsl := slice65 w.heap.size j (by omega)
      have hcv := conv65 w.heap.size j (L.set j ((hexd u).toNat : Int)) (by have := HL.out; simpa using this) (by omega) (wr.setCell ⟨w.heap.size, j, none⟩ (.int .u8 ((hexd u).toNat : Int))) (by
        refine (blk_set HH.out j _).trans ?_
        simp [List.map_set])
      go_wp2
      go_ret2
      exact ⟨by rw [fin65 L j u kf (hexF 8 n) (by have := HL.out; omega) hk1 h16 HE.out]; rfl, Below.setCell HB.out (Nat.le_refl _) _⟩
    · have hdg := dig16 (u % 16) (by omega)
      have e1 := and15 u (by omega) (by omega)
      have hk2 : 2 ≤ kf := by
        rcases Nat.lt_or_ge kf 2 with h | h
        · have h1 : kf = 1 := by omega
          have := HU.out
          rw [h1] at this
          omega
        · exact h
      go_wp2
      obtain ⟨k, hk⟩ : ∃ m, kf = m + 1 := ⟨kf - 1, by omega⟩
      obtain ⟨j', hj'⟩ : ∃ m, j = m + 1 := ⟨j - 1, by omega⟩
      subst hk hj'
      refine ⟨⟨j', u / 16, k, L.set (j' + 1) ((hexd (u % 16)).toNat : Int), rfl, by go_num, ⟨round65 L j' u k _ (by have := HL.out; omega) h16 HE.out, ?_, by omega, by omega, by have := HJ.out; omega, by have := HL.out; simpa using this⟩, ⟨?_⟩, ⟨Below.setCell HB.out (Nat.le_refl _) _⟩⟩, by simp [intOf]; omega⟩
      · have := HU.out
        rw [Nat.pow_succ] at this
        omega
      · refine (blk_set HH.out (j' + 1) _).trans ?_
        simp [List.map_set]
set_option maxHeartbeats 1000000 in
set_option maxRecDepth 100000 in
theorem formatInt_16i (n : Nat) (hn : n < 4294967296) (w : World) (hG : Glob w) :
    Calls Tryd.prog 35 #[.int .i64 n, .int .i64 16] w fun e w' => e = .returned (.string ⟨(hexF 8 n).toArray⟩) ∧ Below w.heap.size w w' := by
  have HG := Aside0.mk hG
  clear hG
  go_enter Tryd.func35, Tryd.ntmps35
  go_wp2_with (go_at_call 44; refine (formatBits_16 n hn _ HG.out).mono ?_; rintro e w1 ⟨rfl, hb⟩)
  go_ret
  exact ⟨rfl, hb⟩
set_option maxHeartbeats 1000000 in
set_option maxRecDepth 100000 in
theorem formatInt_16 (n : Nat) (hn : n < 4294967296) (w : World) (hG : Glob w) :
    Calls Tryd.prog 26 #[.int .i64 n, .int .i64 16] w fun e w' => e = .returned (.string ⟨(hexF 8 n).toArray⟩) ∧ Below w.heap.size w w' := by
  have HG := Aside0.mk hG
  clear hG
  go_enter Tryd.func26, Tryd.ntmps26
  go_wp2_with (go_at_call 35; refine (formatInt_16i n hn _ HG.out).mono ?_; rintro e w1 ⟨rfl, hb⟩)
  go_ret
  exact ⟨rfl, hb⟩
end Go.Proofs.YtjpcbflkgldokaaDoor.H
