/- The law LitLists of package gudgeonlaw07 returns true and leaves its arguments as they were, for every input that can be read as data; the library's tables that the row lists read as the program's text lays them, to which the card ties them. -/
import Derived.Test.YtjpcbflkgldokaaDoorRows
import Derived.Test.YtjpcbflkgldokaaDoorPAx11
import Derived.Test.YtjpcbflkgldokaaDoorLitE
import Derived.Deep.SlicePairs
import Derived.WalkKit
import Derived.Test.YtjpcbflkgldokaaDoorTie
import Derived.Test.YtjpcbflkgldokaaDoorCards
import Derived.SevenTiedAt
import Derived.Handed
import Derived.Lib.LaidIn
import Derived.Lib.LaidU8
import Derived.Test.YtjpcbflkgldokaaDoorHLaid
import Derived.ProofKit
import Derived.OpenShut
import Derived.ShutString
import Derived.ChangeOld
import Derived.Below
import Derived.SizedLaws
import Derived.Test.YtjpcbflkgldokaaDoorWSized
namespace Go.Proofs.YtjpcbflkgldokaaDoor.litLists
open Go.ChangeShapes Go.WideShapes Go.ChangeAt Go.RowKit
open Go.ChangeMaps (open_string shut_string)
set_option linter.unusedVariables false
theorem own : ownKnob Tryd.prog.godebug = none := by kernel_rfl
theorem laidOut : laidOutB Tryd.prog = true := by kernel_rfl
def IsRow (k : IntKind) (w : World) (a : Option Addr) (len cap : Nat) (zs : List Int) : Prop :=
  (a = none ∧ len = 0 ∧ cap = 0 ∧ zs = []) ∨
  ∃ x, a = some x ∧ len ≤ cap ∧ cap ≤ maxLen ∧ zs.length = cap ∧ (∀ i, i < zs.length → w.cell? (x.add i) = some (.int k (zs.getD i 0))) ∧ ∀ n ∈ zs, (Lit.int k n).wf = true
noncomputable def laidWorld (os : Os) : World :=
  let w0 := World.holding Tryd.prog os ⟨#[], #[], []⟩
  let put (h : Array Obj) (g : Nat) (cs : Array Value) : Array Obj := h.modify g fun
    | .cells _ t frozen => .cells cs t frozen
    | o => o
  let h0 := w0.heap
  let h1 := put h0 2 #[.int .u8 0, .int .u8 1, .int .u8 28, .int .u8 2, .int .u8 29, .int .u8 14, .int .u8 24, .int .u8 3, .int .u8 30, .int .u8 22, .int .u8 20, .int .u8 15, .int .u8 25, .int .u8 17, .int .u8 4, .int .u8 8, .int .u8 31, .int .u8 27, .int .u8 13, .int .u8 23, .int .u8 21, .int .u8 19, .int .u8 16, .int .u8 7, .int .u8 26, .int .u8 12, .int .u8 18, .int .u8 6, .int .u8 11, .int .u8 5, .int .u8 10, .int .u8 9]
  let h2 := put h1 3 #[.int .u8 0, .int .u8 1, .int .u8 56, .int .u8 2, .int .u8 57, .int .u8 49, .int .u8 28, .int .u8 3, .int .u8 61, .int .u8 58, .int .u8 42, .int .u8 50, .int .u8 38, .int .u8 29, .int .u8 17, .int .u8 4, .int .u8 62, .int .u8 47, .int .u8 59, .int .u8 36, .int .u8 45, .int .u8 43, .int .u8 51, .int .u8 22, .int .u8 53, .int .u8 39, .int .u8 33, .int .u8 30, .int .u8 24, .int .u8 18, .int .u8 12, .int .u8 5, .int .u8 63, .int .u8 55, .int .u8 48, .int .u8 27, .int .u8 60, .int .u8 41, .int .u8 37, .int .u8 16, .int .u8 46, .int .u8 35, .int .u8 44, .int .u8 21, .int .u8 52, .int .u8 32, .int .u8 23, .int .u8 11, .int .u8 54, .int .u8 26, .int .u8 40, .int .u8 15, .int .u8 34, .int .u8 20, .int .u8 31, .int .u8 10, .int .u8 25, .int .u8 14, .int .u8 19, .int .u8 9, .int .u8 13, .int .u8 8, .int .u8 7, .int .u8 6]
  let h3 := put h2 0 #[.int .u64 1, .int .u64 10, .int .u64 100, .int .u64 1000, .int .u64 10000, .int .u64 100000, .int .u64 1000000, .int .u64 10000000, .int .u64 100000000, .int .u64 1000000000, .int .u64 10000000000, .int .u64 100000000000, .int .u64 1000000000000, .int .u64 10000000000000, .int .u64 100000000000000, .int .u64 1000000000000000, .int .u64 10000000000000000, .int .u64 100000000000000000, .int .u64 1000000000000000000, .int .u64 10000000000000000000]
  { w0 with heap := h3 }
theorem laidWorld_met (os : Os) (args : Array Value) : laidMetH Tryd.prog Rows.litListsRow.laid ((laidWorld os).forCall (fun _ _ => 0) ⟨#[], args, []⟩).memory :=
  (LaidIn.of_run (P := Tryd.prog) (l := Rows.litListsRow.laid) [2, 3, 0] 8 (by kernel_rfl) (by kernel_rfl) (by kernel_rfl) (by kernel_rfl)).met
set_option maxRecDepth 100000 in
theorem lifted (os : Os) (started : os.Started) (H : Type) (enc : TypeId × Value → H) :
    ReturnsInHanded {} Tryd.checked os 8 .any (fun w args => (Rows.litListsSpec.pre enc Tryd.prog Tryd.f8 Rows.litListsRow.domain false w args ∧ laidMetH Tryd.prog Rows.litListsRow.laid w) ∧ sizedMet enc Tryd.prog Tryd.f8 (OpenSpec.ofChange Rows.litListsSpec) false w args) (Rows.litListsSpec.post enc Tryd.prog Tryd.f8 false true false false) := by
  refine returnsInHanded_of_change_and (C := Tryd.checked) (X := fun w _ => laidMetH Tryd.prog Rows.litListsRow.laid w) (fun _ _ _ hh h => h.of_heap hh) own started (by kernel_rfl) Tryd.func8
    (ChangeSpec.witness_at (enc := enc) (C := Tryd.checked) (os := os) (X := fun w _ => laidMetH Tryd.prog Rows.litListsRow.laid w) false (laidWorld os) #[.slice none 0 0, .int .i64 0] 8 rfl (by kernel_rfl) (by kernel_rfl) (by kernel_rfl) (by kernel_rfl) (by kernel_rfl) (laidWorld_met os _)) ?_
  intro W base args ds gs before hval0 hW hcnd hsz0 hL _
  have hsz : (DataW.weightsEach Tryd.prog (Tryd.f8.params.toList ++ Rows.litListsSpec.plain.varTypes Tryd.prog) (ds ++ gs)).all (· ≤ reachBytes) = true := hsz0
  have hval : ∀ (j : Nat) t v, Tryd.f8.params[j]? = some t → args[j]? = some v → Value.okWide Tryd.prog W .any base t v := hval0
  have hW' := hW
  obtain ⟨p, q, hA0, hV, rfl, hfz, hnd⟩ := hW
  have hA : DataW.TrodAll enc Tryd.prog W 0 (fun _ => true) true Tryd.f8.params.toList args.toList ds p := hA0
  rw [Tryd.params8] at hA hval hsz
  obtain ⟨v0, vs0, d0, ds0, p0, q0, hargs, rfl, rfl, h0, r0⟩ := trodAll_cons hA
  obtain ⟨v1, vs1, d1, ds1, p1, q1, rfl, rfl, rfl, h1, r1⟩ := trodAll_cons r0
  obtain ⟨rfl, rfl, rfl⟩ := trodAll_nil r1
  obtain rfl : args = #[v0, v1] := by cases args; simp_all
  obtain ⟨rfl, rfl⟩ := trodVars_none hV
  obtain ⟨a0, len0, cap0, rfl⟩ := okWide_slice Tryd.underlying32 (hval 0 32 v0 rfl rfl)
  have k0 := h0
  have lt0 : ∀ x ∈ p0, x.block < W.heap.size := by obtain ⟨m, hm⟩ := k0; exact DataW.trod_lt m _ _ _ hm
  obtain ⟨a1, rfl, rfl, rfl, w1⟩ := open_int Tryd.underlying3 (hval 1 3 v1 rfl rfl) h1
  obtain ⟨l0, hll, hlc, hr0⟩ : ∃ l : List PA.S41, l.length = len0 ∧ len0 ≤ cap0 ∧ Go.Proofs.YtjpcbflkgldokaaDoorW.PrintWords.Kd.C PA.k41 W a0 len0 l := by
    obtain ⟨fuel, hf⟩ := h0
    rcases Go.Deep.open_slice_pairs Tryd.underlying32 Tryd.underlying41 (by kernel_rfl) rfl rfl (by kernel_rfl) (by kernel_rfl) hf with ⟨hcs, _⟩ | ⟨a, len, cap, m, n, V0, V1, D0, D1, P0, P1, hcs, _, hl, hm, hmm, _, hx⟩
    · simp [Value.cells] at hcs
      obtain ⟨rfl, rfl, rfl⟩ := hcs
      exact ⟨[], rfl, Nat.le_refl _, rfl, by decide, fun h => absurd h (by decide)⟩
    · simp [Value.cells] at hcs
      obtain ⟨rfl, rfl, rfl⟩ := hcs
      have hlm : len0 ≤ m := by rw [hmm]; split <;> omega
      have each : ∀ i, i < len0 → ∃ q : PA.S41, W.cell? (a.add (i * 2)) = some (.int .i64 q.f0) ∧ W.cell? (a.add (i * 2 + 1)) = some (.int .i64 q.f1) := by
        intro i hi
        obtain ⟨c0, c1, t0, t1⟩ := hx i (by omega)
        obtain ⟨n0, e0, _⟩ := DataW.trod_int Tryd.underlying3 t0
        obtain ⟨n1, e1, _⟩ := DataW.trod_int Tryd.underlying3 t1
        simp only [List.cons.injEq, and_true] at e0 e1
        exact ⟨⟨n0, n1⟩, by rw [c0, e0], by rw [c1, e1]⟩
      haveI : Inhabited PA.S41 := ⟨⟨0, 0⟩⟩
      obtain ⟨q, hq⟩ := Go.Deep.choose_lt each
      refine ⟨(List.range len0).map q, by simp, hl, by simp, Nat.le_trans (Nat.le_trans hl hm) (by decide), fun hn => ⟨a, rfl, fun j p hp => ?_⟩⟩
      rw [List.getElem?_map] at hp
      obtain ⟨j', hj', rfl⟩ := Option.map_eq_some_iff.1 hp
      obtain ⟨hjl, rfl⟩ := List.getElem?_eq_some_iff.1 hj'
      rw [List.length_range] at hjl
      simp only [List.getElem_range]
      refine ⟨_, rfl, PA.k41_mk W _, fun i u hu => ?_⟩
      match i, hu with
      | 0, hu => obtain rfl := Option.some.inj hu; exact (hq j hjl).1
      | 1, hu => obtain rfl := Option.some.inj hu; exact (hq j hjl).2
  have hG : Go.Proofs.YtjpcbflkgldokaaDoor.H.Glob W := Go.Proofs.YtjpcbflkgldokaaDoor.H.glob_of_laid hL
  clear hA0 hval0 hsz0 hsz
  subst hll
  have hw1 := (bounds_i64 w1).1
  obtain ⟨k, hk⟩ := Go.Proofs.YtjpcbflkgldokaaDoor.S.LitLists l0 a1 hw1
  refine (PA.gudgeonlaw07_LitLists.calls k a0 cap0 l0 a1 true W hG hr0 hlc hk).mono fun e W' ⟨he, bel⟩ => ?_
  subst he
  exact ⟨_, rfl, _, _, _, [], _, [], hW', trodAll_mk1 (shut_bool Tryd.underlying4 _), (trodAll_cons_mk (Below.trod laidOut (by kernel_rfl) (of_decide_eq_true (by kernel_rfl)) k0 bel lt0) (trodAll_cons_mk (shut_int Tryd.underlying3 w1) trodAll_mk0)), rfl, bel.frame _, fun h => by cases h⟩
theorem over : Rows.litListsRow.holds Tryd.pinned (OpenSpec.ofChange Rows.litListsSpec) :=
  OpenClaim.holds_of_wide 8 Tryd.f8 rfl rfl rfl rfl rfl rfl rfl ⟨rfl, rfl, rfl, rfl, rfl⟩ rfl rfl rfl rfl rfl (by kernel_rfl) Tryd.func8 (by kernel_rfl)
    (of_decide_eq_true (by kernel_rfl)) (by unfold Func.isWrapper; first | (rw [if_pos (by decide +kernel)]; kernel_rfl) | (rw [if_neg (by decide +kernel)]; exact ⟨rfl, rfl⟩))
    (fun os started H enc _ => lifted os started H enc)
theorem carded : Rows.LitListsCardSaid :=
  Claim7.holds_tied_plain_at .later [] [.data, .data, .data] true (true, "588fed5ac8d6e695daa7d9e111d585519857f3504d6ca61f8d1b19cb442d9ff0") false
    over (fun _ h => by cases h) (by kernel_rfl) (fun _ h => by cases h) litLists_row_tie rfl ⟨rfl, rfl⟩ (by kernel_rfl) rfl
    (fun f fn hf hfn => by
      obtain rfl : f = 8 := Option.some.inj ((show Tryd.prog.funcNamed "gudgeon/gudgeonlaw07.LitLists" = some 8 by kernel_rfl).symm.trans hf) |>.symm
      obtain rfl : fn = Tryd.f8 := (Option.some.inj (Tryd.func8.symm.trans hfn)).symm
      exact ⟨by kernel_rfl, fun j t ht => by
        rw [Tryd.params8] at ht
        have hm := Array.mem_of_getElem? ht
        simp only [List.mem_toArray, List.mem_cons, List.not_mem_nil, or_false] at hm
        rcases hm with rfl | rfl
        · exact (show Tryd.prog.wantsStandIn 32 = false by kernel_rfl)
        · exact (show Tryd.prog.wantsStandIn 3 = false by kernel_rfl)⟩)
    (by kernel_rfl)
#print axioms carded
end Go.Proofs.YtjpcbflkgldokaaDoor.litLists
namespace Go.Proofs.YtjpcbflkgldokaaDoor
/-- The card, under a short name, for the claim. -/
theorem litLists_card : Rows.LitListsCardSaid := litLists.carded
end Go.Proofs.YtjpcbflkgldokaaDoor
