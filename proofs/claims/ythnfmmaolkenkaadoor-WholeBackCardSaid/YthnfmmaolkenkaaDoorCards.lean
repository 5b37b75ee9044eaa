/-
  DERIVED. GIVEN WITH THE SEED: THE CARDS: each row of YthnfmmaolkenkaaDoorRows.lean that lists a variable, with what it lists TIED to the program's text (the seventh form; the later family's looks); each row that meets fmt, with fmt's text TOLD by the authors' own Lean function (tested against real Go, not proved from fmt's source: count such statements apart). THE CARD IS WHAT COUNTS. Prove the row's statement (the work); the ties are given (YthnfmmaolkenkaaDoorTie.lean); close each card by the builder's one call (the guide's Derived/Test/ToyasCard.lean, 'card_holds'). Laid BY PROGRAM, IN A SANDBOX (cutbox-door.mjs). By AI agents, Wed Nov 11 2026. No macro, syntax, notation, axiom, sorry.
-/
import Derived.Test.YthnfmmaolkenkaaDoorRows
import GoSem.ClaimSeven
namespace Go.Proofs.YthnfmmaolkenkaaDoor
namespace Rows

/-- THE TIED CARD OF 'gudgeonlaw02.WholeParts'. -/
def wholePartsCard : Claim7 := { stood := { row := wholePartsRow, standIns := [], harness := (true, "ba68cb9603c955314ec3c17bd3894557d5c64f67e14ac306d1ac9aa1e21bbfb4"), looks := false }, kinds := [], alts := [], laidByText := true, laidKinds := [.data, .pinned], laidTests := true, laidLooks := .later }
def WholePartsCardSaid : Prop := Claim7.holds Tryd.pinned (.plain (OpenSpec.ofChange wholePartsSpec)) wholePartsCard

/-- THE TIED CARD OF 'gudgeonlaw02.WholeSums'. -/
def wholeSumsCard : Claim7 := { stood := { row := wholeSumsRow, standIns := [], harness := (true, "ba68cb9603c955314ec3c17bd3894557d5c64f67e14ac306d1ac9aa1e21bbfb4"), looks := false }, kinds := [], alts := [], laidByText := true, laidKinds := [.data, .pinned], laidTests := true, laidLooks := .later }
def WholeSumsCardSaid : Prop := Claim7.holds Tryd.pinned (.plain (OpenSpec.ofChange wholeSumsSpec)) wholeSumsCard

/-- THE TIED CARD OF 'gudgeonlaw02.WholeBack'. -/
def wholeBackCard : Claim7 := { stood := { row := wholeBackRow, standIns := [], harness := (true, "ba68cb9603c955314ec3c17bd3894557d5c64f67e14ac306d1ac9aa1e21bbfb4"), looks := false }, kinds := [], alts := [], laidByText := true, laidKinds := [.data, .pinned], laidTests := true, laidLooks := .later }
def WholeBackCardSaid : Prop := Claim7.holds Tryd.pinned (.plain (OpenSpec.ofChange wholeBackSpec)) wholeBackCard

/-- THE TIED CARD OF 'gudgeonlaw02.WholeOrder'. -/
def wholeOrderCard : Claim7 := { stood := { row := wholeOrderRow, standIns := [], harness := (true, "ba68cb9603c955314ec3c17bd3894557d5c64f67e14ac306d1ac9aa1e21bbfb4"), looks := false }, kinds := [], alts := [], laidByText := true, laidKinds := [.data, .pinned], laidTests := true, laidLooks := .later }
def WholeOrderCardSaid : Prop := Claim7.holds Tryd.pinned (.plain (OpenSpec.ofChange wholeOrderSpec)) wholeOrderCard

/-- THE TIED CARD OF 'gudgeonlaw02.WholeTexts'. -/
def wholeTextsCard : Claim7 := { stood := { row := wholeTextsRow, standIns := [], harness := (true, "ba68cb9603c955314ec3c17bd3894557d5c64f67e14ac306d1ac9aa1e21bbfb4"), looks := false }, kinds := [], alts := [], laidByText := true, laidKinds := [.data, .pinned], laidTests := true, laidLooks := .later }
def WholeTextsCardSaid : Prop := Claim7.holds Tryd.pinned (.plain (OpenSpec.ofChange wholeTextsSpec)) wholeTextsCard

/-- THE TIED CARD OF 'gudgeonlaw02.WholeTextBack'. -/
def wholeTextBackCard : Claim7 := { stood := { row := wholeTextBackRow, standIns := [], harness := (true, "ba68cb9603c955314ec3c17bd3894557d5c64f67e14ac306d1ac9aa1e21bbfb4"), looks := false }, kinds := [], alts := [], laidByText := true, laidKinds := [.data, .pinned], laidTests := true, laidLooks := .later }
def WholeTextBackCardSaid : Prop := Claim7.holds Tryd.pinned (.plain (OpenSpec.ofChange wholeTextBackSpec)) wholeTextBackCard

/-- THE SECOND FORM's CARD OF 'gudgeonlaw02.WholeParts'. -/
def wholePartsUptoCard : Claim7 := { stood := { row := wholePartsUptoRow, standIns := [], harness := (true, "ba68cb9603c955314ec3c17bd3894557d5c64f67e14ac306d1ac9aa1e21bbfb4"), looks := false }, kinds := [], alts := [], laidByText := true, laidKinds := [.data, .pinned], laidTests := true, laidLooks := .later }
def WholePartsUptoCardSaid : Prop := Claim7.holds Tryd.pinned (.plain (OpenSpec.upto wholePartsSpec)) wholePartsUptoCard

/-- THE SECOND FORM's CARD OF 'gudgeonlaw02.WholeSums'. -/
def wholeSumsUptoCard : Claim7 := { stood := { row := wholeSumsUptoRow, standIns := [], harness := (true, "ba68cb9603c955314ec3c17bd3894557d5c64f67e14ac306d1ac9aa1e21bbfb4"), looks := false }, kinds := [], alts := [], laidByText := true, laidKinds := [.data, .pinned], laidTests := true, laidLooks := .later }
def WholeSumsUptoCardSaid : Prop := Claim7.holds Tryd.pinned (.plain (OpenSpec.upto wholeSumsSpec)) wholeSumsUptoCard

/-- THE SECOND FORM's CARD OF 'gudgeonlaw02.WholeBack'. -/
def wholeBackUptoCard : Claim7 := { stood := { row := wholeBackUptoRow, standIns := [], harness := (true, "ba68cb9603c955314ec3c17bd3894557d5c64f67e14ac306d1ac9aa1e21bbfb4"), looks := false }, kinds := [], alts := [], laidByText := true, laidKinds := [.data, .pinned], laidTests := true, laidLooks := .later }
def WholeBackUptoCardSaid : Prop := Claim7.holds Tryd.pinned (.plain (OpenSpec.upto wholeBackSpec)) wholeBackUptoCard

/-- THE SECOND FORM's CARD OF 'gudgeonlaw02.WholeOrder'. -/
def wholeOrderUptoCard : Claim7 := { stood := { row := wholeOrderUptoRow, standIns := [], harness := (true, "ba68cb9603c955314ec3c17bd3894557d5c64f67e14ac306d1ac9aa1e21bbfb4"), looks := false }, kinds := [], alts := [], laidByText := true, laidKinds := [.data, .pinned], laidTests := true, laidLooks := .later }
def WholeOrderUptoCardSaid : Prop := Claim7.holds Tryd.pinned (.plain (OpenSpec.upto wholeOrderSpec)) wholeOrderUptoCard

/-- THE SECOND FORM's CARD OF 'gudgeonlaw02.WholeTexts'. -/
def wholeTextsUptoCard : Claim7 := { stood := { row := wholeTextsUptoRow, standIns := [], harness := (true, "ba68cb9603c955314ec3c17bd3894557d5c64f67e14ac306d1ac9aa1e21bbfb4"), looks := false }, kinds := [], alts := [], laidByText := true, laidKinds := [.data, .pinned], laidTests := true, laidLooks := .later }
def WholeTextsUptoCardSaid : Prop := Claim7.holds Tryd.pinned (.plain (OpenSpec.upto wholeTextsSpec)) wholeTextsUptoCard

/-- THE SECOND FORM's CARD OF 'gudgeonlaw02.WholeTextBack'. -/
def wholeTextBackUptoCard : Claim7 := { stood := { row := wholeTextBackUptoRow, standIns := [], harness := (true, "ba68cb9603c955314ec3c17bd3894557d5c64f67e14ac306d1ac9aa1e21bbfb4"), looks := false }, kinds := [], alts := [], laidByText := true, laidKinds := [.data, .pinned], laidTests := true, laidLooks := .later }
def WholeTextBackUptoCardSaid : Prop := Claim7.holds Tryd.pinned (.plain (OpenSpec.upto wholeTextBackSpec)) wholeTextBackUptoCard
end Rows
end Go.Proofs.YthnfmmaolkenkaaDoor
