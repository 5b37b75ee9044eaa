/-
  NARROWER THAN 'FOR EVERY INPUT', by the rows' own cells (each row's printed sentence says how): WholeParts: laid · WholeSums: laid · WholeBack: laid · WholeOrder: laid · WholeTexts: laid · WholeTextBack: laid.
  DERIVED. THE GIVEN ROWS OF THIS SEAT. 6 by the template 'for every input the law returns true; each argument reads behind the call as it read before'; 0 by the template 'total and deterministic' (their statements: YthnfmmaolkenkaaDoorTotals.lean).
  GIVEN WITH THE SEED: the statements are not yours to turn. If you find one false, say at which input.
  Laid BY PROGRAM, IN A SANDBOX (cutbox-rows.mjs): the forced cells as the released guide's own fill.sh prints them over the translation a5268ada4c259a50… (all of the seat's roots in one cut). By AI agents, Wed Nov 11 2026. No macro, syntax, notation, axiom, sorry.
-/
import Derived.Test.YthnfmmaolkenkaaDoorChecked
import GoSem.PinnedTables
import GoSem.Claim
import GoSem.ClaimJoined
import GoSem.ClaimMapViews
import Derived.JoinedTies
import Derived.KernelRfl
namespace Go.Proofs.YthnfmmaolkenkaaDoor
/- THE CELL 'sum', in the pinned program and in every row, IS THE sha256 OF THE DUMP (.gsa) THAT YthnfmmaolkenkaaDoorProg.lean LOADS. Nothing in Lean hashes anything: it is a label: what it is worth is what the hold of that sum in a sandbox is worth. -/
noncomputable def Tryd.pinned : Pinned := { name := "ythnfmmaolkenkaadoor", sum := "a5268ada4c259a50cad6e8f69f5b7cdfe42a2831466336da28615cfe5cd4da50", checked := Tryd.checked }
namespace Rows
def none {H : Type} : Left H := { results := [], args := [] }

/- WHAT THE LISTED PACKAGE-LEVEL VARIABLES READ AS WHEN THE CALL BEGINS. Each datum BY PROGRAM (the guide's laid-datum.mjs) off the statement by which the dump's own 'gosem.cut.vars' lays the variable. In a bare row this is a premise. The card (YthnfmmaolkenkaaDoorCards.lean) ties it to the program's text. -/
def laid_unicode_utf8_acceptRanges {H : Type} : DataW H := .agg [.agg [.lit (.int .u8 128), .lit (.int .u8 191)], .agg [.lit (.int .u8 160), .lit (.int .u8 191)], .agg [.lit (.int .u8 128), .lit (.int .u8 159)], .agg [.lit (.int .u8 144), .lit (.int .u8 191)], .agg [.lit (.int .u8 128), .lit (.int .u8 143)], .agg [.lit (.int .u8 0), .lit (.int .u8 0)], .agg [.lit (.int .u8 0), .lit (.int .u8 0)], .agg [.lit (.int .u8 0), .lit (.int .u8 0)], .agg [.lit (.int .u8 0), .lit (.int .u8 0)], .agg [.lit (.int .u8 0), .lit (.int .u8 0)], .agg [.lit (.int .u8 0), .lit (.int .u8 0)], .agg [.lit (.int .u8 0), .lit (.int .u8 0)], .agg [.lit (.int .u8 0), .lit (.int .u8 0)], .agg [.lit (.int .u8 0), .lit (.int .u8 0)], .agg [.lit (.int .u8 0), .lit (.int .u8 0)], .agg [.lit (.int .u8 0), .lit (.int .u8 0)]]
/-- One of Go's own tables, pinned by name: the form's constant. -/
def laid_unicode_utf8_first : DataW Unit := Go.Pinned.utf8First

/-- 'gudgeonlaw02.WholeParts': WHATEVER THE INPUT: true; the input reads as it did. -/
def wholePartsSpec : ChangeSpec := { name := "wholeParts", fn := fun _ => fun
  | [d1, d2] => { results := [.lit (.bool true)], args := [d1, d2] }
  | _ => none }
def wholePartsRow : OpenClaim := { program := "ythnfmmaolkenkaadoor", sum := "a5268ada4c259a50cad6e8f69f5b7cdfe42a2831466336da28615cfe5cd4da50", func := "gudgeon/gudgeonlaw02.WholeParts", spec := "wholeParts", inPlace := ["internal/bytealg.IndexByteString", "internal/bytealg.IndexString"], unfollowed := true, recurses := true, named := ["unicode/utf8.first", "unicode/utf8.acceptRanges", "internal/bytealg.MaxLen"], apart := false, laid := [("unicode/utf8.acceptRanges", laid_unicode_utf8_acceptRanges), ("unicode/utf8.first", laid_unicode_utf8_first)] }
def WholePartsSaid : Prop := wholePartsRow.holds Tryd.pinned (OpenSpec.ofChange wholePartsSpec)

/-- ITS FALSE NEIGHBOUR: 'it returns false'. Refute it at one input. -/
def wholePartsWrong : ChangeSpec := { name := "wholeParts", fn := fun _ => fun
  | [d1, d2] => { results := [.lit (.bool false)], args := [d1, d2] }
  | _ => none }
def WholePartsWrongFalsely : Prop := wholePartsRow.holds Tryd.pinned (OpenSpec.ofChange wholePartsWrong)

/-- 'gudgeonlaw02.WholeSums': WHATEVER THE INPUT: true; the input reads as it did. -/
def wholeSumsSpec : ChangeSpec := { name := "wholeSums", fn := fun _ => fun
  | [d1, d2] => { results := [.lit (.bool true)], args := [d1, d2] }
  | _ => none }
def wholeSumsRow : OpenClaim := { program := "ythnfmmaolkenkaadoor", sum := "a5268ada4c259a50cad6e8f69f5b7cdfe42a2831466336da28615cfe5cd4da50", func := "gudgeon/gudgeonlaw02.WholeSums", spec := "wholeSums", inPlace := ["internal/bytealg.IndexByteString", "internal/bytealg.IndexString"], unfollowed := true, recurses := true, named := ["unicode/utf8.first", "unicode/utf8.acceptRanges", "internal/bytealg.MaxLen"], apart := false, laid := [("unicode/utf8.acceptRanges", laid_unicode_utf8_acceptRanges), ("unicode/utf8.first", laid_unicode_utf8_first)] }
def WholeSumsSaid : Prop := wholeSumsRow.holds Tryd.pinned (OpenSpec.ofChange wholeSumsSpec)

/-- ITS FALSE NEIGHBOUR: 'it returns false'. Refute it at one input. -/
def wholeSumsWrong : ChangeSpec := { name := "wholeSums", fn := fun _ => fun
  | [d1, d2] => { results := [.lit (.bool false)], args := [d1, d2] }
  | _ => none }
def WholeSumsWrongFalsely : Prop := wholeSumsRow.holds Tryd.pinned (OpenSpec.ofChange wholeSumsWrong)

/-- 'gudgeonlaw02.WholeBack': WHATEVER THE INPUT: true; the input reads as it did. -/
def wholeBackSpec : ChangeSpec := { name := "wholeBack", fn := fun _ => fun
  | [d1, d2] => { results := [.lit (.bool true)], args := [d1, d2] }
  | _ => none }
def wholeBackRow : OpenClaim := { program := "ythnfmmaolkenkaadoor", sum := "a5268ada4c259a50cad6e8f69f5b7cdfe42a2831466336da28615cfe5cd4da50", func := "gudgeon/gudgeonlaw02.WholeBack", spec := "wholeBack", inPlace := ["internal/bytealg.IndexByteString", "internal/bytealg.IndexString"], unfollowed := true, recurses := true, named := ["unicode/utf8.first", "unicode/utf8.acceptRanges", "internal/bytealg.MaxLen"], apart := false, laid := [("unicode/utf8.acceptRanges", laid_unicode_utf8_acceptRanges), ("unicode/utf8.first", laid_unicode_utf8_first)] }
def WholeBackSaid : Prop := wholeBackRow.holds Tryd.pinned (OpenSpec.ofChange wholeBackSpec)

/-- ITS FALSE NEIGHBOUR: 'it returns false'. Refute it at one input. -/
def wholeBackWrong : ChangeSpec := { name := "wholeBack", fn := fun _ => fun
  | [d1, d2] => { results := [.lit (.bool false)], args := [d1, d2] }
  | _ => none }
def WholeBackWrongFalsely : Prop := wholeBackRow.holds Tryd.pinned (OpenSpec.ofChange wholeBackWrong)

/-- 'gudgeonlaw02.WholeOrder': WHATEVER THE INPUT: true; the input reads as it did. -/
def wholeOrderSpec : ChangeSpec := { name := "wholeOrder", fn := fun _ => fun
  | [d1, d2, d3] => { results := [.lit (.bool true)], args := [d1, d2, d3] }
  | _ => none }
def wholeOrderRow : OpenClaim := { program := "ythnfmmaolkenkaadoor", sum := "a5268ada4c259a50cad6e8f69f5b7cdfe42a2831466336da28615cfe5cd4da50", func := "gudgeon/gudgeonlaw02.WholeOrder", spec := "wholeOrder", inPlace := ["internal/bytealg.IndexByteString", "internal/bytealg.IndexString"], unfollowed := true, recurses := true, named := ["unicode/utf8.first", "unicode/utf8.acceptRanges", "internal/bytealg.MaxLen"], apart := false, laid := [("unicode/utf8.acceptRanges", laid_unicode_utf8_acceptRanges), ("unicode/utf8.first", laid_unicode_utf8_first)] }
def WholeOrderSaid : Prop := wholeOrderRow.holds Tryd.pinned (OpenSpec.ofChange wholeOrderSpec)

/-- ITS FALSE NEIGHBOUR: 'it returns false'. Refute it at one input. -/
def wholeOrderWrong : ChangeSpec := { name := "wholeOrder", fn := fun _ => fun
  | [d1, d2, d3] => { results := [.lit (.bool false)], args := [d1, d2, d3] }
  | _ => none }
def WholeOrderWrongFalsely : Prop := wholeOrderRow.holds Tryd.pinned (OpenSpec.ofChange wholeOrderWrong)

/-- 'gudgeonlaw02.WholeTexts': WHATEVER THE INPUT: true; the input reads as it did. -/
def wholeTextsSpec : ChangeSpec := { name := "wholeTexts", fn := fun _ => fun
  | [d1, d2, d3] => { results := [.lit (.bool true)], args := [d1, d2, d3] }
  | _ => none }
def wholeTextsRow : OpenClaim := { program := "ythnfmmaolkenkaadoor", sum := "a5268ada4c259a50cad6e8f69f5b7cdfe42a2831466336da28615cfe5cd4da50", func := "gudgeon/gudgeonlaw02.WholeTexts", spec := "wholeTexts", inPlace := ["internal/bytealg.IndexByteString", "internal/bytealg.IndexString"], unfollowed := true, recurses := true, named := ["unicode/utf8.first", "unicode/utf8.acceptRanges", "internal/bytealg.MaxLen"], apart := false, laid := [("unicode/utf8.acceptRanges", laid_unicode_utf8_acceptRanges), ("unicode/utf8.first", laid_unicode_utf8_first)] }
def WholeTextsSaid : Prop := wholeTextsRow.holds Tryd.pinned (OpenSpec.ofChange wholeTextsSpec)

/-- ITS FALSE NEIGHBOUR: 'it returns false'. Refute it at one input. -/
def wholeTextsWrong : ChangeSpec := { name := "wholeTexts", fn := fun _ => fun
  | [d1, d2, d3] => { results := [.lit (.bool false)], args := [d1, d2, d3] }
  | _ => none }
def WholeTextsWrongFalsely : Prop := wholeTextsRow.holds Tryd.pinned (OpenSpec.ofChange wholeTextsWrong)

/-- 'gudgeonlaw02.WholeTextBack': WHATEVER THE INPUT: true; the input reads as it did. -/
def wholeTextBackSpec : ChangeSpec := { name := "wholeTextBack", fn := fun _ => fun
  | [d1, d2, d3] => { results := [.lit (.bool true)], args := [d1, d2, d3] }
  | _ => none }
def wholeTextBackRow : OpenClaim := { program := "ythnfmmaolkenkaadoor", sum := "a5268ada4c259a50cad6e8f69f5b7cdfe42a2831466336da28615cfe5cd4da50", func := "gudgeon/gudgeonlaw02.WholeTextBack", spec := "wholeTextBack", inPlace := ["internal/bytealg.IndexByteString", "internal/bytealg.IndexString"], unfollowed := true, recurses := true, named := ["unicode/utf8.first", "unicode/utf8.acceptRanges", "internal/bytealg.MaxLen"], apart := false, laid := [("unicode/utf8.acceptRanges", laid_unicode_utf8_acceptRanges), ("unicode/utf8.first", laid_unicode_utf8_first)] }
def WholeTextBackSaid : Prop := wholeTextBackRow.holds Tryd.pinned (OpenSpec.ofChange wholeTextBackSpec)

/-- ITS FALSE NEIGHBOUR: 'it returns false'. Refute it at one input. -/
def wholeTextBackWrong : ChangeSpec := { name := "wholeTextBack", fn := fun _ => fun
  | [d1, d2, d3] => { results := [.lit (.bool false)], args := [d1, d2, d3] }
  | _ => none }
def WholeTextBackWrongFalsely : Prop := wholeTextBackRow.holds Tryd.pinned (OpenSpec.ofChange wholeTextBackWrong)

/- THE SECOND FORM. 'bulk': how many values and letters a reading holds, each counted each time it is reached (what is shared counts as often as it is met; a slice's spare places count too). A statement '..UptoSaid' is the law's where the arguments, and the package variables that the reading takes, are together of bulk at most 1048576: NARROWER than '..Said'. Prove '..Said' where nothing that the law and all that it calls make is longer than what came in: it says more and counts as full. Else prove '..UptoSaid'. A law counts once. -/
mutual
def uptoBulk {H : Type} : DataW H → Nat
  | .lit (.string bytes) => bytes.length + 1
  | .lit _ => 1
  | .nil => 1
  | .ptr d => uptoBulk d + 1
  | .slice elems spare => uptoBulkAll elems + uptoBulkAll spare + 1
  | .agg parts => uptoBulkAll parts + 1
  | .iface _ d => uptoBulk d + 1
  | .map entries => uptoBulkEntries entries + 1
  | .held _ => 1
def uptoBulkAll {H : Type} : List (DataW H) → Nat
  | [] => 0
  | d :: r => uptoBulk d + uptoBulkAll r
def uptoBulkEntries {H : Type} : List (Lit × DataW H) → Nat
  | [] => 0
  | x :: r => uptoBulkEntry x + uptoBulkEntries r
def uptoBulkEntry {H : Type} : Lit × DataW H → Nat
  | (.string bytes, d) => bytes.length + uptoBulk d + 1
  | (_, d) => uptoBulk d + 1
 end
def uptoSmall : (H : Type) → List (DataW H) → Bool := fun _ ds => decide (uptoBulkAll ds ≤ 1048576)
def OpenSpec.upto (s : _root_.Go.ChangeSpec) : _root_.Go.OpenSpec := { _root_.Go.OpenSpec.ofChange s with cond := some uptoSmall }

/-- 'gudgeonlaw02.WholeParts', WHERE WHAT IT READS IS OF BULK AT MOST 1048576: true; the input reads as it did. -/
def wholePartsUptoRow : OpenClaim := { program := "ythnfmmaolkenkaadoor", sum := "a5268ada4c259a50cad6e8f69f5b7cdfe42a2831466336da28615cfe5cd4da50", func := "gudgeon/gudgeonlaw02.WholeParts", spec := "wholeParts", inPlace := ["internal/bytealg.IndexByteString", "internal/bytealg.IndexString"], unfollowed := true, recurses := true, named := ["unicode/utf8.first", "unicode/utf8.acceptRanges", "internal/bytealg.MaxLen"], apart := false, laid := [("unicode/utf8.acceptRanges", laid_unicode_utf8_acceptRanges), ("unicode/utf8.first", laid_unicode_utf8_first)], narrowed := true }
def WholePartsUptoSaid : Prop := wholePartsUptoRow.holds Tryd.pinned (OpenSpec.upto wholePartsSpec)

/-- 'gudgeonlaw02.WholeSums', WHERE WHAT IT READS IS OF BULK AT MOST 1048576: true; the input reads as it did. -/
def wholeSumsUptoRow : OpenClaim := { program := "ythnfmmaolkenkaadoor", sum := "a5268ada4c259a50cad6e8f69f5b7cdfe42a2831466336da28615cfe5cd4da50", func := "gudgeon/gudgeonlaw02.WholeSums", spec := "wholeSums", inPlace := ["internal/bytealg.IndexByteString", "internal/bytealg.IndexString"], unfollowed := true, recurses := true, named := ["unicode/utf8.first", "unicode/utf8.acceptRanges", "internal/bytealg.MaxLen"], apart := false, laid := [("unicode/utf8.acceptRanges", laid_unicode_utf8_acceptRanges), ("unicode/utf8.first", laid_unicode_utf8_first)], narrowed := true }
def WholeSumsUptoSaid : Prop := wholeSumsUptoRow.holds Tryd.pinned (OpenSpec.upto wholeSumsSpec)

/-- 'gudgeonlaw02.WholeBack', WHERE WHAT IT READS IS OF BULK AT MOST 1048576: true; the input reads as it did. -/
def wholeBackUptoRow : OpenClaim := { program := "ythnfmmaolkenkaadoor", sum := "a5268ada4c259a50cad6e8f69f5b7cdfe42a2831466336da28615cfe5cd4da50", func := "gudgeon/gudgeonlaw02.WholeBack", spec := "wholeBack", inPlace := ["internal/bytealg.IndexByteString", "internal/bytealg.IndexString"], unfollowed := true, recurses := true, named := ["unicode/utf8.first", "unicode/utf8.acceptRanges", "internal/bytealg.MaxLen"], apart := false, laid := [("unicode/utf8.acceptRanges", laid_unicode_utf8_acceptRanges), ("unicode/utf8.first", laid_unicode_utf8_first)], narrowed := true }
def WholeBackUptoSaid : Prop := wholeBackUptoRow.holds Tryd.pinned (OpenSpec.upto wholeBackSpec)

/-- 'gudgeonlaw02.WholeOrder', WHERE WHAT IT READS IS OF BULK AT MOST 1048576: true; the input reads as it did. -/
def wholeOrderUptoRow : OpenClaim := { program := "ythnfmmaolkenkaadoor", sum := "a5268ada4c259a50cad6e8f69f5b7cdfe42a2831466336da28615cfe5cd4da50", func := "gudgeon/gudgeonlaw02.WholeOrder", spec := "wholeOrder", inPlace := ["internal/bytealg.IndexByteString", "internal/bytealg.IndexString"], unfollowed := true, recurses := true, named := ["unicode/utf8.first", "unicode/utf8.acceptRanges", "internal/bytealg.MaxLen"], apart := false, laid := [("unicode/utf8.acceptRanges", laid_unicode_utf8_acceptRanges), ("unicode/utf8.first", laid_unicode_utf8_first)], narrowed := true }
def WholeOrderUptoSaid : Prop := wholeOrderUptoRow.holds Tryd.pinned (OpenSpec.upto wholeOrderSpec)

/-- 'gudgeonlaw02.WholeTexts', WHERE WHAT IT READS IS OF BULK AT MOST 1048576: true; the input reads as it did. -/
def wholeTextsUptoRow : OpenClaim := { program := "ythnfmmaolkenkaadoor", sum := "a5268ada4c259a50cad6e8f69f5b7cdfe42a2831466336da28615cfe5cd4da50", func := "gudgeon/gudgeonlaw02.WholeTexts", spec := "wholeTexts", inPlace := ["internal/bytealg.IndexByteString", "internal/bytealg.IndexString"], unfollowed := true, recurses := true, named := ["unicode/utf8.first", "unicode/utf8.acceptRanges", "internal/bytealg.MaxLen"], apart := false, laid := [("unicode/utf8.acceptRanges", laid_unicode_utf8_acceptRanges), ("unicode/utf8.first", laid_unicode_utf8_first)], narrowed := true }
def WholeTextsUptoSaid : Prop := wholeTextsUptoRow.holds Tryd.pinned (OpenSpec.upto wholeTextsSpec)

/-- 'gudgeonlaw02.WholeTextBack', WHERE WHAT IT READS IS OF BULK AT MOST 1048576: true; the input reads as it did. -/
def wholeTextBackUptoRow : OpenClaim := { program := "ythnfmmaolkenkaadoor", sum := "a5268ada4c259a50cad6e8f69f5b7cdfe42a2831466336da28615cfe5cd4da50", func := "gudgeon/gudgeonlaw02.WholeTextBack", spec := "wholeTextBack", inPlace := ["internal/bytealg.IndexByteString", "internal/bytealg.IndexString"], unfollowed := true, recurses := true, named := ["unicode/utf8.first", "unicode/utf8.acceptRanges", "internal/bytealg.MaxLen"], apart := false, laid := [("unicode/utf8.acceptRanges", laid_unicode_utf8_acceptRanges), ("unicode/utf8.first", laid_unicode_utf8_first)], narrowed := true }
def WholeTextBackUptoSaid : Prop := wholeTextBackUptoRow.holds Tryd.pinned (OpenSpec.upto wholeTextBackSpec)

end Rows
end Go.Proofs.YthnfmmaolkenkaaDoor
