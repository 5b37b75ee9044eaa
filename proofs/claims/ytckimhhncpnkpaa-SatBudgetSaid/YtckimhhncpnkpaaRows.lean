/-
  No cell of these rows narrows 'for every input' (looked for: loops, veiled, ifaces, maps, wideKeys, modest, calm, conditions, laid).
  DERIVED. THE GIVEN ROWS OF THIS SEAT. 5 by the template 'for every input the law returns true; each argument reads behind the call as it read before'; 0 by the template 'total and deterministic' (their statements: YtckimhhncpnkpaaTotals.lean).
  GIVEN WITH THE SEED: the statements are not yours to turn. If you find one false, say at which input.
  Laid BY PROGRAM, IN A SANDBOX (cutbox-rows.mjs): the forced cells as the released guide's own fill.sh prints them over the translation 7f9ef0271905e9a6… (all of the seat's roots in one cut). By AI agents, Wed Nov 11 2026. No macro, syntax, notation, axiom, sorry.
-/
import Derived.Test.YtckimhhncpnkpaaChecked
import GoSem.Claim
import GoSem.ClaimJoined
import GoSem.ClaimMapViews
import Derived.JoinedTies
import Derived.KernelRfl
namespace Go.Proofs.Ytckimhhncpnkpaa
/- THE CELL 'sum', in the pinned program and in every row, IS THE sha256 OF THE DUMP (.gsa) THAT YtckimhhncpnkpaaProg.lean LOADS. Nothing in Lean hashes anything: it is a label: what it is worth is what the hold of that sum in a sandbox is worth. -/
noncomputable def Try.pinned : Pinned := { name := "ytckimhhncpnkpaa", sum := "7f9ef0271905e9a63cc64c633321c1bb4f0fd2f63e997e6136b57e2ad4e3e4ec", checked := Try.checked }
namespace Rows
def none {H : Type} : Left H := { results := [], args := [] }

/-- 'gudgeonlaw16.SatDecides': WHATEVER THE INPUT: true; the input reads as it did. -/
def satDecidesSpec : ChangeSpec := { name := "satDecides", fn := fun _ => fun
  | [d1, d2, d3] => { results := [.lit (.bool true)], args := [d1, d2, d3] }
  | _ => none }
def satDecidesRow : OpenClaim := { program := "ytckimhhncpnkpaa", sum := "7f9ef0271905e9a63cc64c633321c1bb4f0fd2f63e997e6136b57e2ad4e3e4ec", func := "gudgeon/gudgeonlaw16.SatDecides", spec := "satDecides", unfollowed := true, recurses := true, apart := false }
def SatDecidesSaid : Prop := satDecidesRow.holds Try.pinned (OpenSpec.ofChange satDecidesSpec)

/-- ITS FALSE NEIGHBOUR: 'it returns false'. Refute it at one input. -/
def satDecidesWrong : ChangeSpec := { name := "satDecides", fn := fun _ => fun
  | [d1, d2, d3] => { results := [.lit (.bool false)], args := [d1, d2, d3] }
  | _ => none }
def SatDecidesWrongFalsely : Prop := satDecidesRow.holds Try.pinned (OpenSpec.ofChange satDecidesWrong)

/-- 'gudgeonlaw16.SatAgain': WHATEVER THE INPUT: true; the input reads as it did. -/
def satAgainSpec : ChangeSpec := { name := "satAgain", fn := fun _ => fun
  | [d1, d2, d3, d4, d5] => { results := [.lit (.bool true)], args := [d1, d2, d3, d4, d5] }
  | _ => none }
def satAgainRow : OpenClaim := { program := "ytckimhhncpnkpaa", sum := "7f9ef0271905e9a63cc64c633321c1bb4f0fd2f63e997e6136b57e2ad4e3e4ec", func := "gudgeon/gudgeonlaw16.SatAgain", spec := "satAgain", unfollowed := true, recurses := true, apart := false }
def SatAgainSaid : Prop := satAgainRow.holds Try.pinned (OpenSpec.ofChange satAgainSpec)

/-- ITS FALSE NEIGHBOUR: 'it returns false'. Refute it at one input. -/
def satAgainWrong : ChangeSpec := { name := "satAgain", fn := fun _ => fun
  | [d1, d2, d3, d4, d5] => { results := [.lit (.bool false)], args := [d1, d2, d3, d4, d5] }
  | _ => none }
def SatAgainWrongFalsely : Prop := satAgainRow.holds Try.pinned (OpenSpec.ofChange satAgainWrong)

/-- 'gudgeonlaw16.SatNone': WHATEVER THE INPUT: true; the input reads as it did. -/
def satNoneSpec : ChangeSpec := { name := "satNone", fn := fun _ => fun
  | [d] => { results := [.lit (.bool true)], args := [d] }
  | _ => none }
def satNoneRow : OpenClaim := { program := "ytckimhhncpnkpaa", sum := "7f9ef0271905e9a63cc64c633321c1bb4f0fd2f63e997e6136b57e2ad4e3e4ec", func := "gudgeon/gudgeonlaw16.SatNone", spec := "satNone", unfollowed := true, recurses := true, apart := false }
def SatNoneSaid : Prop := satNoneRow.holds Try.pinned (OpenSpec.ofChange satNoneSpec)

/-- ITS FALSE NEIGHBOUR: 'it returns false'. Refute it at one input. -/
def satNoneWrong : ChangeSpec := { name := "satNone", fn := fun _ => fun
  | [d] => { results := [.lit (.bool false)], args := [d] }
  | _ => none }
def SatNoneWrongFalsely : Prop := satNoneRow.holds Try.pinned (OpenSpec.ofChange satNoneWrong)

/-- 'gudgeonlaw16.SatSound': WHATEVER THE INPUT: true; the input reads as it did. -/
def satSoundSpec : ChangeSpec := { name := "satSound", fn := fun _ => fun
  | [d1, d2, d3, d4] => { results := [.lit (.bool true)], args := [d1, d2, d3, d4] }
  | _ => none }
def satSoundRow : OpenClaim := { program := "ytckimhhncpnkpaa", sum := "7f9ef0271905e9a63cc64c633321c1bb4f0fd2f63e997e6136b57e2ad4e3e4ec", func := "gudgeon/gudgeonlaw16.SatSound", spec := "satSound", unfollowed := true, recurses := true, apart := false }
def SatSoundSaid : Prop := satSoundRow.holds Try.pinned (OpenSpec.ofChange satSoundSpec)

/-- ITS FALSE NEIGHBOUR: 'it returns false'. Refute it at one input. -/
def satSoundWrong : ChangeSpec := { name := "satSound", fn := fun _ => fun
  | [d1, d2, d3, d4] => { results := [.lit (.bool false)], args := [d1, d2, d3, d4] }
  | _ => none }
def SatSoundWrongFalsely : Prop := satSoundRow.holds Try.pinned (OpenSpec.ofChange satSoundWrong)

/-- 'gudgeonlaw16.SatBudget': WHATEVER THE INPUT: true; the input reads as it did. -/
def satBudgetSpec : ChangeSpec := { name := "satBudget", fn := fun _ => fun
  | [d1, d2, d3, d4] => { results := [.lit (.bool true)], args := [d1, d2, d3, d4] }
  | _ => none }
def satBudgetRow : OpenClaim := { program := "ytckimhhncpnkpaa", sum := "7f9ef0271905e9a63cc64c633321c1bb4f0fd2f63e997e6136b57e2ad4e3e4ec", func := "gudgeon/gudgeonlaw16.SatBudget", spec := "satBudget", unfollowed := true, recurses := true, apart := false }
def SatBudgetSaid : Prop := satBudgetRow.holds Try.pinned (OpenSpec.ofChange satBudgetSpec)

/-- ITS FALSE NEIGHBOUR: 'it returns false'. Refute it at one input. -/
def satBudgetWrong : ChangeSpec := { name := "satBudget", fn := fun _ => fun
  | [d1, d2, d3, d4] => { results := [.lit (.bool false)], args := [d1, d2, d3, d4] }
  | _ => none }
def SatBudgetWrongFalsely : Prop := satBudgetRow.holds Try.pinned (OpenSpec.ofChange satBudgetWrong)

/- THE SECOND FORM. 'bulk': how many values and letters a reading holds, each counted each time it is reached (what is shared counts as often as it is met; a slice's spare places count too). A statement '..UptoSaid' is the law's where the arguments, and the package variables that the reading takes, are together of bulk at most 1048576: NARROWER than '..Said'. Prove '..Said' where nothing that the law and all that it calls make is longer than what came in: it says more and counts as full. Else prove '..UptoSaid'. A law counts once. -/
mutual
def uptoBulk {H : Type} : DataW H → Nat
  | .lit (.string bytes) => bytes.length + 1
  | .lit _ => 1
  | .nil => 1
  | .ptr d => uptoBulk d + 1
  | .slice elems spare => uptoBulkAll elems + uptoBulkAll spare + 1
  | .agg parts => uptoBulkAll parts + 1
  | .iface _ d => uptoBulk d + 1
  | .map entries => uptoBulkEntries entries + 1
  | .held _ => 1
def uptoBulkAll {H : Type} : List (DataW H) → Nat
  | [] => 0
  | d :: r => uptoBulk d + uptoBulkAll r
def uptoBulkEntries {H : Type} : List (Lit × DataW H) → Nat
  | [] => 0
  | x :: r => uptoBulkEntry x + uptoBulkEntries r
def uptoBulkEntry {H : Type} : Lit × DataW H → Nat
  | (.string bytes, d) => bytes.length + uptoBulk d + 1
  | (_, d) => uptoBulk d + 1
 end
def uptoSmall : (H : Type) → List (DataW H) → Bool := fun _ ds => decide (uptoBulkAll ds ≤ 1048576)
def OpenSpec.upto (s : _root_.Go.ChangeSpec) : _root_.Go.OpenSpec := { _root_.Go.OpenSpec.ofChange s with cond := some uptoSmall }

/-- 'gudgeonlaw16.SatDecides', WHERE WHAT IT READS IS OF BULK AT MOST 1048576: true; the input reads as it did. -/
def satDecidesUptoRow : OpenClaim := { program := "ytckimhhncpnkpaa", sum := "7f9ef0271905e9a63cc64c633321c1bb4f0fd2f63e997e6136b57e2ad4e3e4ec", func := "gudgeon/gudgeonlaw16.SatDecides", spec := "satDecides", unfollowed := true, recurses := true, apart := false, narrowed := true }
def SatDecidesUptoSaid : Prop := satDecidesUptoRow.holds Try.pinned (OpenSpec.upto satDecidesSpec)

/-- 'gudgeonlaw16.SatAgain', WHERE WHAT IT READS IS OF BULK AT MOST 1048576: true; the input reads as it did. -/
def satAgainUptoRow : OpenClaim := { program := "ytckimhhncpnkpaa", sum := "7f9ef0271905e9a63cc64c633321c1bb4f0fd2f63e997e6136b57e2ad4e3e4ec", func := "gudgeon/gudgeonlaw16.SatAgain", spec := "satAgain", unfollowed := true, recurses := true, apart := false, narrowed := true }
def SatAgainUptoSaid : Prop := satAgainUptoRow.holds Try.pinned (OpenSpec.upto satAgainSpec)

/-- 'gudgeonlaw16.SatNone', WHERE WHAT IT READS IS OF BULK AT MOST 1048576: true; the input reads as it did. -/
def satNoneUptoRow : OpenClaim := { program := "ytckimhhncpnkpaa", sum := "7f9ef0271905e9a63cc64c633321c1bb4f0fd2f63e997e6136b57e2ad4e3e4ec", func := "gudgeon/gudgeonlaw16.SatNone", spec := "satNone", unfollowed := true, recurses := true, apart := false, narrowed := true }
def SatNoneUptoSaid : Prop := satNoneUptoRow.holds Try.pinned (OpenSpec.upto satNoneSpec)

/-- 'gudgeonlaw16.SatSound', WHERE WHAT IT READS IS OF BULK AT MOST 1048576: true; the input reads as it did. -/
def satSoundUptoRow : OpenClaim := { program := "ytckimhhncpnkpaa", sum := "7f9ef0271905e9a63cc64c633321c1bb4f0fd2f63e997e6136b57e2ad4e3e4ec", func := "gudgeon/gudgeonlaw16.SatSound", spec := "satSound", unfollowed := true, recurses := true, apart := false, narrowed := true }
def SatSoundUptoSaid : Prop := satSoundUptoRow.holds Try.pinned (OpenSpec.upto satSoundSpec)

/-- 'gudgeonlaw16.SatBudget', WHERE WHAT IT READS IS OF BULK AT MOST 1048576: true; the input reads as it did. -/
def satBudgetUptoRow : OpenClaim := { program := "ytckimhhncpnkpaa", sum := "7f9ef0271905e9a63cc64c633321c1bb4f0fd2f63e997e6136b57e2ad4e3e4ec", func := "gudgeon/gudgeonlaw16.SatBudget", spec := "satBudget", unfollowed := true, recurses := true, apart := false, narrowed := true }
def SatBudgetUptoSaid : Prop := satBudgetUptoRow.holds Try.pinned (OpenSpec.upto satBudgetSpec)

end Rows
end Go.Proofs.Ytckimhhncpnkpaa
