/- The law LexAgain of package gudgeonlaw05 returns true and leaves its arguments as they were, for every input that can be read as data; the library's tables that the row lists read as the program's text lays them, to which the card ties them. -/
import Derived.Test.YtnpmmhceiaedcaaDoorRows
import Derived.Test.YtnpmmhceiaedcaaDoorPAx7
import Derived.Test.YtnpmmhceiaedcaaDoorPureLexAgain
import Derived.WalkKit
import Derived.Test.YtnpmmhceiaedcaaDoorTie
import Derived.Test.YtnpmmhceiaedcaaDoorCards
import Derived.SevenTiedAt
import Derived.Handed
import Derived.Lib.LaidIn
import Derived.Lib.LaidU8
import Derived.Test.YtnpmmhceiaedcaaDoorHReplace
import Derived.Test.YtnpmmhceiaedcaaDoorHShape
import Derived.ProofKit
import Derived.OpenShut
import Derived.ShutString
import Derived.ChangeOld
import Derived.Below
import Derived.SizedLaws
namespace Go.Proofs.YtnpmmhceiaedcaaDoor.lexAgain
open Go.ChangeShapes Go.WideShapes Go.ChangeAt Go.RowKit
open Go.ChangeMaps (open_string shut_string)
set_option linter.unusedVariables false
theorem own : ownKnob Tryd.prog.godebug = none := by kernel_rfl
noncomputable def laidWorld (os : Os) : World :=
  let w0 := World.holding Tryd.prog os ⟨#[], #[], []⟩
  let put (h : Array Obj) (g : Nat) (cs : Array Value) : Array Obj := h.modify g fun
    | .cells _ t frozen => .cells cs t frozen
    | o => o
  let h0 := w0.heap
  let h1 := put h0 2 #[.int .u8 128, .int .u8 191, .int .u8 160, .int .u8 191, .int .u8 128, .int .u8 159, .int .u8 144, .int .u8 191, .int .u8 128, .int .u8 143, .int .u8 0, .int .u8 0, .int .u8 0, .int .u8 0, .int .u8 0, .int .u8 0, .int .u8 0, .int .u8 0, .int .u8 0, .int .u8 0, .int .u8 0, .int .u8 0, .int .u8 0, .int .u8 0, .int .u8 0, .int .u8 0, .int .u8 0, .int .u8 0, .int .u8 0, .int .u8 0, .int .u8 0, .int .u8 0]
  let h2 := put h1 1 ((Go.Pinned.utf8FirstZ.map fun (n : Nat) => Value.int .u8 (n : Int)).toArray)
  { w0 with heap := h2 }
theorem laidWorld_met (os : Os) (args : Array Value) : laidMetH Tryd.prog Rows.lexAgainRow.laid ((laidWorld os).forCall (fun _ _ => 0) ⟨#[], args, []⟩).memory :=
  (LaidIn.of_run (P := Tryd.prog) (l := Rows.lexAgainRow.laid) [2, 1] 8 (by kernel_rfl) (by kernel_rfl) (by kernel_rfl) (by kernel_rfl)).met
set_option maxRecDepth 100000 in
theorem lifted (os : Os) (started : os.Started) (H : Type) (enc : TypeId × Value → H) :
    ReturnsInHanded {} Tryd.checked os 5 .any (fun w args => (Rows.lexAgainSpec.pre enc Tryd.prog Tryd.f5 Rows.lexAgainRow.domain false w args ∧ laidMetH Tryd.prog Rows.lexAgainRow.laid w) ∧ sizedMet enc Tryd.prog Tryd.f5 (OpenSpec.ofChange Rows.lexAgainSpec) false w args) (Rows.lexAgainSpec.post enc Tryd.prog Tryd.f5 false true false false) := by
  refine Go.Proofs.YtnpmmhceiaedcaaDoor.H.handed_both (C := Tryd.checked) (X := fun w _ => laidMetH Tryd.prog Rows.lexAgainRow.laid w) (fun _ _ _ hh h => h.of_heap hh) own started (by kernel_rfl) Tryd.func5
    (ChangeSpec.witness_at (enc := enc) (C := Tryd.checked) (os := os) (X := fun w _ => laidMetH Tryd.prog Rows.lexAgainRow.laid w) false (laidWorld os) #[.string ByteArray.empty] 8 rfl (by kernel_rfl) (by kernel_rfl) (by kernel_rfl) (by kernel_rfl) (by kernel_rfl) (laidWorld_met os _)) ?_
  intro W base args ds gs before hval0 hW hcnd hsz0 hL hS _
  have hsz : (DataW.weightsEach Tryd.prog (Tryd.f5.params.toList ++ Rows.lexAgainSpec.plain.varTypes Tryd.prog) (ds ++ gs)).all (· ≤ reachBytes) = true := hsz0
  have hval : ∀ (j : Nat) t v, Tryd.f5.params[j]? = some t → args[j]? = some v → Value.okWide Tryd.prog W .any base t v := hval0
  have hW' := hW
  obtain ⟨p, q, hA0, hV, rfl, hfz, hnd⟩ := hW
  have hA : DataW.TrodAll enc Tryd.prog W 0 (fun _ => true) true Tryd.f5.params.toList args.toList ds p := hA0
  rw [Tryd.params5] at hA hval hsz
  obtain ⟨v0, vs0, d0, ds0, p0, q0, hargs, rfl, rfl, h0, r0⟩ := trodAll_cons hA
  obtain ⟨rfl, rfl, rfl⟩ := trodAll_nil r0
  obtain rfl : args = #[v0] := by cases args; simp_all
  obtain ⟨rfl, rfl⟩ := trodVars_none hV
  obtain ⟨a0, rfl, rfl, rfl, y0⟩ := open_string Tryd.underlying9 (hval 0 9 v0 rfl rfl) h0
  have w0 : a0.size ≤ 140737488351232 := by
    have z := sized_string hsz (j := 0) (t := 9) rfl rfl
    rw [Array.length_toList] at z
    exact z
  have hG : Go.Proofs.YtnpmmhceiaedcaaDoor.H.Glob W := Go.Proofs.YtnpmmhceiaedcaaDoor.H.glob_of_shaped hS
  clear hA0 hval0 hsz0 hsz
  refine (PA.gudgeonlaw05_LexAgain.walk Pure.LexAgain a0 W hG w0).mono fun e W' ⟨he, bel⟩ => ?_
  subst he
  exact ⟨_, rfl, _, _, _, [], _, [], hW', trodAll_mk1 (shut_bool Tryd.underlying4 _), (trodAll_cons_mk (shut_string Tryd.underlying9 y0) trodAll_mk0), rfl, bel.frame _, fun h => by cases h⟩
theorem over : Rows.lexAgainRow.holds Tryd.pinned (OpenSpec.ofChange Rows.lexAgainSpec) :=
  OpenClaim.holds_of_wide 5 Tryd.f5 rfl rfl rfl rfl rfl rfl rfl ⟨rfl, rfl, rfl, rfl, rfl⟩ rfl rfl rfl rfl rfl (by kernel_rfl) Tryd.func5 (by kernel_rfl)
    (of_decide_eq_true (by kernel_rfl)) (by unfold Func.isWrapper; first | (rw [if_pos (by decide +kernel)]; kernel_rfl) | (rw [if_neg (by decide +kernel)]; exact ⟨rfl, rfl⟩))
    (fun os started H enc _ => lifted os started H enc)
theorem carded : Rows.LexAgainCardSaid :=
  Claim7.holds_tied_plain_at .later [] [.data, .pinned] true (true, "a0a5aff81371c8004eb209a02a91941e41e74df61f669bfafea09ae90e38d5f6") false
    over (fun _ h => by cases h) (by kernel_rfl) (fun _ h => by cases h) lexAgain_row_tie rfl ⟨rfl, rfl⟩ (by kernel_rfl) rfl
    (fun f fn hf hfn => by
      obtain rfl : f = 5 := Option.some.inj ((show Tryd.prog.funcNamed "gudgeon/gudgeonlaw05.LexAgain" = some 5 by kernel_rfl).symm.trans hf) |>.symm
      obtain rfl : fn = Tryd.f5 := (Option.some.inj (Tryd.func5.symm.trans hfn)).symm
      exact ⟨by kernel_rfl, fun j t ht => by
        rw [Tryd.params5] at ht
        have hm := Array.mem_of_getElem? ht
        simp only [List.mem_toArray, List.mem_cons, List.not_mem_nil, or_false] at hm
        rcases hm with rfl
        · exact (show Tryd.prog.wantsStandIn 9 = false by kernel_rfl)⟩)
    (by kernel_rfl)
#print axioms carded
end Go.Proofs.YtnpmmhceiaedcaaDoor.lexAgain
namespace Go.Proofs.YtnpmmhceiaedcaaDoor
/-- The card, under a short name, for the claim. -/
theorem lexAgain_card : Rows.LexAgainCardSaid := lexAgain.carded
end Go.Proofs.YtnpmmhceiaedcaaDoor
