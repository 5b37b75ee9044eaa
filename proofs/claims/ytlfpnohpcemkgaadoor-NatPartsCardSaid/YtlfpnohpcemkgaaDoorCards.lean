/-
  DERIVED. GIVEN WITH THE SEED: THE CARDS: each row of YtlfpnohpcemkgaaDoorRows.lean that lists a variable, with what it lists TIED to the program's text (the seventh form; the later family's looks); each row that meets fmt, with fmt's text TOLD by the authors' own Lean function (tested against real Go, not proved from fmt's source: count such statements apart). THE CARD IS WHAT COUNTS. Prove the row's statement (the work); the ties are given (YtlfpnohpcemkgaaDoorTie.lean); close each card by the builder's one call (the guide's Derived/Test/ToyasCard.lean, 'card_holds'). Laid BY PROGRAM, IN A SANDBOX (cutbox-door.mjs). By AI agents, Wed Nov 11 2026. No macro, syntax, notation, axiom, sorry.
-/
import Derived.Test.YtlfpnohpcemkgaaDoorRows
import GoSem.ClaimSeven
namespace Go.Proofs.YtlfpnohpcemkgaaDoor
namespace Rows

/-- THE TIED CARD OF 'gudgeonlaw01.NatParts'. -/
def natPartsCard : Claim7 := { stood := { row := natPartsRow, standIns := [], harness := (true, "dbf7fe588360fdfb41ef3d3495ab37953e16fc13eed55bf566d1a048127c9ca8"), looks := false }, kinds := [], alts := [], laidByText := true, laidKinds := [.data, .pinned], laidTests := true, laidLooks := .later }
def NatPartsCardSaid : Prop := Claim7.holds Tryd.pinned (.plain (OpenSpec.ofChange natPartsSpec)) natPartsCard

/-- THE TIED CARD OF 'gudgeonlaw01.NatTexts'. -/
def natTextsCard : Claim7 := { stood := { row := natTextsRow, standIns := [], harness := (true, "dbf7fe588360fdfb41ef3d3495ab37953e16fc13eed55bf566d1a048127c9ca8"), looks := false }, kinds := [], alts := [], laidByText := true, laidKinds := [.data, .pinned], laidTests := true, laidLooks := .later }
def NatTextsCardSaid : Prop := Claim7.holds Tryd.pinned (.plain (OpenSpec.ofChange natTextsSpec)) natTextsCard

/-- THE TIED CARD OF 'gudgeonlaw01.NatBack'. -/
def natBackCard : Claim7 := { stood := { row := natBackRow, standIns := [], harness := (true, "dbf7fe588360fdfb41ef3d3495ab37953e16fc13eed55bf566d1a048127c9ca8"), looks := false }, kinds := [], alts := [], laidByText := true, laidKinds := [.data, .pinned], laidTests := true, laidLooks := .later }
def NatBackCardSaid : Prop := Claim7.holds Tryd.pinned (.plain (OpenSpec.ofChange natBackSpec)) natBackCard

/-- THE TIED CARD OF 'gudgeonlaw01.NatTextBack'. -/
def natTextBackCard : Claim7 := { stood := { row := natTextBackRow, standIns := [], harness := (true, "dbf7fe588360fdfb41ef3d3495ab37953e16fc13eed55bf566d1a048127c9ca8"), looks := false }, kinds := [], alts := [], laidByText := true, laidKinds := [.data, .pinned], laidTests := true, laidLooks := .later }
def NatTextBackCardSaid : Prop := Claim7.holds Tryd.pinned (.plain (OpenSpec.ofChange natTextBackSpec)) natTextBackCard

/-- THE TIED CARD OF 'gudgeonlaw01.NatDivides'. -/
def natDividesCard : Claim7 := { stood := { row := natDividesRow, standIns := [], harness := (true, "dbf7fe588360fdfb41ef3d3495ab37953e16fc13eed55bf566d1a048127c9ca8"), looks := false }, kinds := [], alts := [], laidByText := true, laidKinds := [.data, .pinned], laidTests := true, laidLooks := .later }
def NatDividesCardSaid : Prop := Claim7.holds Tryd.pinned (.plain (OpenSpec.ofChange natDividesSpec)) natDividesCard

/-- THE TIED CARD OF 'gudgeonlaw01.NatSums'. -/
def natSumsCard : Claim7 := { stood := { row := natSumsRow, standIns := [], harness := (true, "dbf7fe588360fdfb41ef3d3495ab37953e16fc13eed55bf566d1a048127c9ca8"), looks := false }, kinds := [], alts := [], laidByText := true, laidKinds := [.data, .pinned], laidTests := true, laidLooks := .later }
def NatSumsCardSaid : Prop := Claim7.holds Tryd.pinned (.plain (OpenSpec.ofChange natSumsSpec)) natSumsCard

/-- THE TIED CARD OF 'gudgeonlaw01.NatOrder'. -/
def natOrderCard : Claim7 := { stood := { row := natOrderRow, standIns := [], harness := (true, "dbf7fe588360fdfb41ef3d3495ab37953e16fc13eed55bf566d1a048127c9ca8"), looks := false }, kinds := [], alts := [], laidByText := true, laidKinds := [.data, .pinned], laidTests := true, laidLooks := .later }
def NatOrderCardSaid : Prop := Claim7.holds Tryd.pinned (.plain (OpenSpec.ofChange natOrderSpec)) natOrderCard

/-- THE TIED CARD OF 'gudgeonlaw01.NatSmall'. -/
def natSmallCard : Claim7 := { stood := { row := natSmallRow, standIns := [], harness := (true, "dbf7fe588360fdfb41ef3d3495ab37953e16fc13eed55bf566d1a048127c9ca8"), looks := false }, kinds := [], alts := [], laidByText := true, laidKinds := [.data, .pinned], laidTests := true, laidLooks := .later }
def NatSmallCardSaid : Prop := Claim7.holds Tryd.pinned (.plain (OpenSpec.ofChange natSmallSpec)) natSmallCard

/-- THE SECOND FORM's CARD OF 'gudgeonlaw01.NatParts'. -/
def natPartsUptoCard : Claim7 := { stood := { row := natPartsUptoRow, standIns := [], harness := (true, "dbf7fe588360fdfb41ef3d3495ab37953e16fc13eed55bf566d1a048127c9ca8"), looks := false }, kinds := [], alts := [], laidByText := true, laidKinds := [.data, .pinned], laidTests := true, laidLooks := .later }
def NatPartsUptoCardSaid : Prop := Claim7.holds Tryd.pinned (.plain (OpenSpec.upto natPartsSpec)) natPartsUptoCard

/-- THE SECOND FORM's CARD OF 'gudgeonlaw01.NatTexts'. -/
def natTextsUptoCard : Claim7 := { stood := { row := natTextsUptoRow, standIns := [], harness := (true, "dbf7fe588360fdfb41ef3d3495ab37953e16fc13eed55bf566d1a048127c9ca8"), looks := false }, kinds := [], alts := [], laidByText := true, laidKinds := [.data, .pinned], laidTests := true, laidLooks := .later }
def NatTextsUptoCardSaid : Prop := Claim7.holds Tryd.pinned (.plain (OpenSpec.upto natTextsSpec)) natTextsUptoCard

/-- THE SECOND FORM's CARD OF 'gudgeonlaw01.NatBack'. -/
def natBackUptoCard : Claim7 := { stood := { row := natBackUptoRow, standIns := [], harness := (true, "dbf7fe588360fdfb41ef3d3495ab37953e16fc13eed55bf566d1a048127c9ca8"), looks := false }, kinds := [], alts := [], laidByText := true, laidKinds := [.data, .pinned], laidTests := true, laidLooks := .later }
def NatBackUptoCardSaid : Prop := Claim7.holds Tryd.pinned (.plain (OpenSpec.upto natBackSpec)) natBackUptoCard

/-- THE SECOND FORM's CARD OF 'gudgeonlaw01.NatTextBack'. -/
def natTextBackUptoCard : Claim7 := { stood := { row := natTextBackUptoRow, standIns := [], harness := (true, "dbf7fe588360fdfb41ef3d3495ab37953e16fc13eed55bf566d1a048127c9ca8"), looks := false }, kinds := [], alts := [], laidByText := true, laidKinds := [.data, .pinned], laidTests := true, laidLooks := .later }
def NatTextBackUptoCardSaid : Prop := Claim7.holds Tryd.pinned (.plain (OpenSpec.upto natTextBackSpec)) natTextBackUptoCard

/-- THE SECOND FORM's CARD OF 'gudgeonlaw01.NatDivides'. -/
def natDividesUptoCard : Claim7 := { stood := { row := natDividesUptoRow, standIns := [], harness := (true, "dbf7fe588360fdfb41ef3d3495ab37953e16fc13eed55bf566d1a048127c9ca8"), looks := false }, kinds := [], alts := [], laidByText := true, laidKinds := [.data, .pinned], laidTests := true, laidLooks := .later }
def NatDividesUptoCardSaid : Prop := Claim7.holds Tryd.pinned (.plain (OpenSpec.upto natDividesSpec)) natDividesUptoCard

/-- THE SECOND FORM's CARD OF 'gudgeonlaw01.NatSums'. -/
def natSumsUptoCard : Claim7 := { stood := { row := natSumsUptoRow, standIns := [], harness := (true, "dbf7fe588360fdfb41ef3d3495ab37953e16fc13eed55bf566d1a048127c9ca8"), looks := false }, kinds := [], alts := [], laidByText := true, laidKinds := [.data, .pinned], laidTests := true, laidLooks := .later }
def NatSumsUptoCardSaid : Prop := Claim7.holds Tryd.pinned (.plain (OpenSpec.upto natSumsSpec)) natSumsUptoCard

/-- THE SECOND FORM's CARD OF 'gudgeonlaw01.NatOrder'. -/
def natOrderUptoCard : Claim7 := { stood := { row := natOrderUptoRow, standIns := [], harness := (true, "dbf7fe588360fdfb41ef3d3495ab37953e16fc13eed55bf566d1a048127c9ca8"), looks := false }, kinds := [], alts := [], laidByText := true, laidKinds := [.data, .pinned], laidTests := true, laidLooks := .later }
def NatOrderUptoCardSaid : Prop := Claim7.holds Tryd.pinned (.plain (OpenSpec.upto natOrderSpec)) natOrderUptoCard

/-- THE SECOND FORM's CARD OF 'gudgeonlaw01.NatSmall'. -/
def natSmallUptoCard : Claim7 := { stood := { row := natSmallUptoRow, standIns := [], harness := (true, "dbf7fe588360fdfb41ef3d3495ab37953e16fc13eed55bf566d1a048127c9ca8"), looks := false }, kinds := [], alts := [], laidByText := true, laidKinds := [.data, .pinned], laidTests := true, laidLooks := .later }
def NatSmallUptoCardSaid : Prop := Claim7.holds Tryd.pinned (.plain (OpenSpec.upto natSmallSpec)) natSmallUptoCard
end Rows
end Go.Proofs.YtlfpnohpcemkgaaDoor
