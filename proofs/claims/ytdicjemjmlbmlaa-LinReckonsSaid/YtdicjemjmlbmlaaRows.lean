/-
  No cell of these rows narrows 'for every input' (looked for: loops, veiled, ifaces, maps, wideKeys, modest, calm, conditions, laid).
  DERIVED. THE GIVEN ROWS OF THIS SEAT. 6 by the template 'for every input the law returns true; each argument reads behind the call as it read before'; 0 by the template 'total and deterministic' (their statements: YtdicjemjmlbmlaaTotals.lean).
  GIVEN WITH THE SEED: the statements are not yours to turn. If you find one false, say at which input.
  Laid BY PROGRAM, IN A SANDBOX (cutbox-rows.mjs): the forced cells as the released guide's own fill.sh prints them over the translation 0e2628327a8963a0… (all of the seat's roots in one cut). By AI agents, Wed Nov 11 2026. No macro, syntax, notation, axiom, sorry.
-/
import Derived.Test.YtdicjemjmlbmlaaChecked
import GoSem.Claim
import GoSem.ClaimJoined
import GoSem.ClaimMapViews
import Derived.JoinedTies
import Derived.KernelRfl
namespace Go.Proofs.Ytdicjemjmlbmlaa
/- THE CELL 'sum', in the pinned program and in every row, IS THE sha256 OF THE DUMP (.gsa) THAT YtdicjemjmlbmlaaProg.lean LOADS. Nothing in Lean hashes anything: it is a label: what it is worth is what the hold of that sum in a sandbox is worth. -/
noncomputable def Try.pinned : Pinned := { name := "ytdicjemjmlbmlaa", sum := "0e2628327a8963a009def1f58e15535db82f1d1e635952cfe3f55a08c0e4d6e9", checked := Try.checked }
namespace Rows
def none {H : Type} : Left H := { results := [], args := [] }

/-- 'gudgeonlaw13.LinClaims': WHATEVER THE INPUT: true; the input reads as it did. -/
def linClaimsSpec : ChangeSpec := { name := "linClaims", fn := fun _ => fun
  | [d] => { results := [.lit (.bool true)], args := [d] }
  | _ => none }
def linClaimsRow : OpenClaim := { program := "ytdicjemjmlbmlaa", sum := "0e2628327a8963a009def1f58e15535db82f1d1e635952cfe3f55a08c0e4d6e9", func := "gudgeon/gudgeonlaw13.LinClaims", spec := "linClaims", unfollowed := true, recurses := true, apart := false }
def LinClaimsSaid : Prop := linClaimsRow.holds Try.pinned (OpenSpec.ofChange linClaimsSpec)

/-- ITS FALSE NEIGHBOUR: 'it returns false'. Refute it at one input. -/
def linClaimsWrong : ChangeSpec := { name := "linClaims", fn := fun _ => fun
  | [d] => { results := [.lit (.bool false)], args := [d] }
  | _ => none }
def LinClaimsWrongFalsely : Prop := linClaimsRow.holds Try.pinned (OpenSpec.ofChange linClaimsWrong)

/-- 'gudgeonlaw13.LinValues': WHATEVER THE INPUT: true; the input reads as it did. -/
def linValuesSpec : ChangeSpec := { name := "linValues", fn := fun _ => fun
  | [d1, d2] => { results := [.lit (.bool true)], args := [d1, d2] }
  | _ => none }
def linValuesRow : OpenClaim := { program := "ytdicjemjmlbmlaa", sum := "0e2628327a8963a009def1f58e15535db82f1d1e635952cfe3f55a08c0e4d6e9", func := "gudgeon/gudgeonlaw13.LinValues", spec := "linValues", unfollowed := true, recurses := true, apart := false }
def LinValuesSaid : Prop := linValuesRow.holds Try.pinned (OpenSpec.ofChange linValuesSpec)

/-- ITS FALSE NEIGHBOUR: 'it returns false'. Refute it at one input. -/
def linValuesWrong : ChangeSpec := { name := "linValues", fn := fun _ => fun
  | [d1, d2] => { results := [.lit (.bool false)], args := [d1, d2] }
  | _ => none }
def LinValuesWrongFalsely : Prop := linValuesRow.holds Try.pinned (OpenSpec.ofChange linValuesWrong)

/-- 'gudgeonlaw13.LinTight': WHATEVER THE INPUT: true; the input reads as it did. -/
def linTightSpec : ChangeSpec := { name := "linTight", fn := fun _ => fun
  | [d1, d2] => { results := [.lit (.bool true)], args := [d1, d2] }
  | _ => none }
def linTightRow : OpenClaim := { program := "ytdicjemjmlbmlaa", sum := "0e2628327a8963a009def1f58e15535db82f1d1e635952cfe3f55a08c0e4d6e9", func := "gudgeon/gudgeonlaw13.LinTight", spec := "linTight", unfollowed := true, recurses := true, apart := false }
def LinTightSaid : Prop := linTightRow.holds Try.pinned (OpenSpec.ofChange linTightSpec)

/-- ITS FALSE NEIGHBOUR: 'it returns false'. Refute it at one input. -/
def linTightWrong : ChangeSpec := { name := "linTight", fn := fun _ => fun
  | [d1, d2] => { results := [.lit (.bool false)], args := [d1, d2] }
  | _ => none }
def LinTightWrongFalsely : Prop := linTightRow.holds Try.pinned (OpenSpec.ofChange linTightWrong)

/-- 'gudgeonlaw13.LinSums': WHATEVER THE INPUT: true; the input reads as it did. -/
def linSumsSpec : ChangeSpec := { name := "linSums", fn := fun _ => fun
  | [d1, d2, d3, d4] => { results := [.lit (.bool true)], args := [d1, d2, d3, d4] }
  | _ => none }
def linSumsRow : OpenClaim := { program := "ytdicjemjmlbmlaa", sum := "0e2628327a8963a009def1f58e15535db82f1d1e635952cfe3f55a08c0e4d6e9", func := "gudgeon/gudgeonlaw13.LinSums", spec := "linSums", unfollowed := true, recurses := true, apart := false }
def LinSumsSaid : Prop := linSumsRow.holds Try.pinned (OpenSpec.ofChange linSumsSpec)

/-- ITS FALSE NEIGHBOUR: 'it returns false'. Refute it at one input. -/
def linSumsWrong : ChangeSpec := { name := "linSums", fn := fun _ => fun
  | [d1, d2, d3, d4] => { results := [.lit (.bool false)], args := [d1, d2, d3, d4] }
  | _ => none }
def LinSumsWrongFalsely : Prop := linSumsRow.holds Try.pinned (OpenSpec.ofChange linSumsWrong)

/-- 'gudgeonlaw13.LinForms': WHATEVER THE INPUT: true; the input reads as it did. -/
def linFormsSpec : ChangeSpec := { name := "linForms", fn := fun _ => fun
  | [d1, d2, d3] => { results := [.lit (.bool true)], args := [d1, d2, d3] }
  | _ => none }
def linFormsRow : OpenClaim := { program := "ytdicjemjmlbmlaa", sum := "0e2628327a8963a009def1f58e15535db82f1d1e635952cfe3f55a08c0e4d6e9", func := "gudgeon/gudgeonlaw13.LinForms", spec := "linForms", unfollowed := true, recurses := true, apart := false }
def LinFormsSaid : Prop := linFormsRow.holds Try.pinned (OpenSpec.ofChange linFormsSpec)

/-- ITS FALSE NEIGHBOUR: 'it returns false'. Refute it at one input. -/
def linFormsWrong : ChangeSpec := { name := "linForms", fn := fun _ => fun
  | [d1, d2, d3] => { results := [.lit (.bool false)], args := [d1, d2, d3] }
  | _ => none }
def LinFormsWrongFalsely : Prop := linFormsRow.holds Try.pinned (OpenSpec.ofChange linFormsWrong)

/-- 'gudgeonlaw13.LinReckons': WHATEVER THE INPUT: true; the input reads as it did. -/
def linReckonsSpec : ChangeSpec := { name := "linReckons", fn := fun _ => fun
  | [d1, d2, d3, d4, d5] => { results := [.lit (.bool true)], args := [d1, d2, d3, d4, d5] }
  | _ => none }
def linReckonsRow : OpenClaim := { program := "ytdicjemjmlbmlaa", sum := "0e2628327a8963a009def1f58e15535db82f1d1e635952cfe3f55a08c0e4d6e9", func := "gudgeon/gudgeonlaw13.LinReckons", spec := "linReckons", unfollowed := true, recurses := true, apart := false }
def LinReckonsSaid : Prop := linReckonsRow.holds Try.pinned (OpenSpec.ofChange linReckonsSpec)

/-- ITS FALSE NEIGHBOUR: 'it returns false'. Refute it at one input. -/
def linReckonsWrong : ChangeSpec := { name := "linReckons", fn := fun _ => fun
  | [d1, d2, d3, d4, d5] => { results := [.lit (.bool false)], args := [d1, d2, d3, d4, d5] }
  | _ => none }
def LinReckonsWrongFalsely : Prop := linReckonsRow.holds Try.pinned (OpenSpec.ofChange linReckonsWrong)

/- THE SECOND FORM. 'bulk': how many values and letters a reading holds, each counted each time it is reached (what is shared counts as often as it is met; a slice's spare places count too). A statement '..UptoSaid' is the law's where the arguments, and the package variables that the reading takes, are together of bulk at most 1048576: NARROWER than '..Said'. Prove '..Said' where nothing that the law and all that it calls make is longer than what came in: it says more and counts as full. Else prove '..UptoSaid'. A law counts once. -/
mutual
def uptoBulk {H : Type} : DataW H → Nat
  | .lit (.string bytes) => bytes.length + 1
  | .lit _ => 1
  | .nil => 1
  | .ptr d => uptoBulk d + 1
  | .slice elems spare => uptoBulkAll elems + uptoBulkAll spare + 1
  | .agg parts => uptoBulkAll parts + 1
  | .iface _ d => uptoBulk d + 1
  | .map entries => uptoBulkEntries entries + 1
  | .held _ => 1
def uptoBulkAll {H : Type} : List (DataW H) → Nat
  | [] => 0
  | d :: r => uptoBulk d + uptoBulkAll r
def uptoBulkEntries {H : Type} : List (Lit × DataW H) → Nat
  | [] => 0
  | x :: r => uptoBulkEntry x + uptoBulkEntries r
def uptoBulkEntry {H : Type} : Lit × DataW H → Nat
  | (.string bytes, d) => bytes.length + uptoBulk d + 1
  | (_, d) => uptoBulk d + 1
 end
def uptoSmall : (H : Type) → List (DataW H) → Bool := fun _ ds => decide (uptoBulkAll ds ≤ 1048576)
def OpenSpec.upto (s : _root_.Go.ChangeSpec) : _root_.Go.OpenSpec := { _root_.Go.OpenSpec.ofChange s with cond := some uptoSmall }

/-- 'gudgeonlaw13.LinClaims', WHERE WHAT IT READS IS OF BULK AT MOST 1048576: true; the input reads as it did. -/
def linClaimsUptoRow : OpenClaim := { program := "ytdicjemjmlbmlaa", sum := "0e2628327a8963a009def1f58e15535db82f1d1e635952cfe3f55a08c0e4d6e9", func := "gudgeon/gudgeonlaw13.LinClaims", spec := "linClaims", unfollowed := true, recurses := true, apart := false, narrowed := true }
def LinClaimsUptoSaid : Prop := linClaimsUptoRow.holds Try.pinned (OpenSpec.upto linClaimsSpec)

/-- 'gudgeonlaw13.LinValues', WHERE WHAT IT READS IS OF BULK AT MOST 1048576: true; the input reads as it did. -/
def linValuesUptoRow : OpenClaim := { program := "ytdicjemjmlbmlaa", sum := "0e2628327a8963a009def1f58e15535db82f1d1e635952cfe3f55a08c0e4d6e9", func := "gudgeon/gudgeonlaw13.LinValues", spec := "linValues", unfollowed := true, recurses := true, apart := false, narrowed := true }
def LinValuesUptoSaid : Prop := linValuesUptoRow.holds Try.pinned (OpenSpec.upto linValuesSpec)

/-- 'gudgeonlaw13.LinTight', WHERE WHAT IT READS IS OF BULK AT MOST 1048576: true; the input reads as it did. -/
def linTightUptoRow : OpenClaim := { program := "ytdicjemjmlbmlaa", sum := "0e2628327a8963a009def1f58e15535db82f1d1e635952cfe3f55a08c0e4d6e9", func := "gudgeon/gudgeonlaw13.LinTight", spec := "linTight", unfollowed := true, recurses := true, apart := false, narrowed := true }
def LinTightUptoSaid : Prop := linTightUptoRow.holds Try.pinned (OpenSpec.upto linTightSpec)

/-- 'gudgeonlaw13.LinSums', WHERE WHAT IT READS IS OF BULK AT MOST 1048576: true; the input reads as it did. -/
def linSumsUptoRow : OpenClaim := { program := "ytdicjemjmlbmlaa", sum := "0e2628327a8963a009def1f58e15535db82f1d1e635952cfe3f55a08c0e4d6e9", func := "gudgeon/gudgeonlaw13.LinSums", spec := "linSums", unfollowed := true, recurses := true, apart := false, narrowed := true }
def LinSumsUptoSaid : Prop := linSumsUptoRow.holds Try.pinned (OpenSpec.upto linSumsSpec)

/-- 'gudgeonlaw13.LinForms', WHERE WHAT IT READS IS OF BULK AT MOST 1048576: true; the input reads as it did. -/
def linFormsUptoRow : OpenClaim := { program := "ytdicjemjmlbmlaa", sum := "0e2628327a8963a009def1f58e15535db82f1d1e635952cfe3f55a08c0e4d6e9", func := "gudgeon/gudgeonlaw13.LinForms", spec := "linForms", unfollowed := true, recurses := true, apart := false, narrowed := true }
def LinFormsUptoSaid : Prop := linFormsUptoRow.holds Try.pinned (OpenSpec.upto linFormsSpec)

/-- 'gudgeonlaw13.LinReckons', WHERE WHAT IT READS IS OF BULK AT MOST 1048576: true; the input reads as it did. -/
def linReckonsUptoRow : OpenClaim := { program := "ytdicjemjmlbmlaa", sum := "0e2628327a8963a009def1f58e15535db82f1d1e635952cfe3f55a08c0e4d6e9", func := "gudgeon/gudgeonlaw13.LinReckons", spec := "linReckons", unfollowed := true, recurses := true, apart := false, narrowed := true }
def LinReckonsUptoSaid : Prop := linReckonsUptoRow.holds Try.pinned (OpenSpec.upto linReckonsSpec)

end Rows
end Go.Proofs.Ytdicjemjmlbmlaa
