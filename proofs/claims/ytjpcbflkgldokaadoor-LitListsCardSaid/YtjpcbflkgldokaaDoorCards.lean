/-
  DERIVED. GIVEN WITH THE SEED: THE CARDS: each row of YtjpcbflkgldokaaDoorRows.lean that lists a variable, with what it lists TIED to the program's text (the seventh form; the later family's looks); each row that meets fmt, with fmt's text TOLD by the authors' own Lean function (tested against real Go, not proved from fmt's source: count such statements apart). THE CARD IS WHAT COUNTS. Prove the row's statement (the work); the ties are given (YtjpcbflkgldokaaDoorTie.lean); close each card by the builder's one call (the guide's Derived/Test/ToyasCard.lean, 'card_holds'). Laid BY PROGRAM, IN A SANDBOX (cutbox-door.mjs). By AI agents, Wed Nov 11 2026. No macro, syntax, notation, axiom, sorry.
-/
import Derived.Test.YtjpcbflkgldokaaDoorRows
import GoSem.ClaimSeven
namespace Go.Proofs.YtjpcbflkgldokaaDoor
namespace Rows

/-- THE TIED CARD OF 'gudgeonlaw07.LitPoints'. -/
def litPointsCard : Claim7 := { stood := { row := litPointsRow, standIns := [], harness := (true, "588fed5ac8d6e695daa7d9e111d585519857f3504d6ca61f8d1b19cb442d9ff0"), looks := false }, kinds := [], alts := [], laidByText := true, laidKinds := [.data, .data, .data], laidTests := true, laidLooks := .later }
def LitPointsCardSaid : Prop := Claim7.holds Tryd.pinned (.plain (OpenSpec.ofChange litPointsSpec)) litPointsCard

/-- THE TIED CARD OF 'gudgeonlaw07.LitBack'. -/
def litBackCard : Claim7 := { stood := { row := litBackRow, standIns := [], harness := (true, "588fed5ac8d6e695daa7d9e111d585519857f3504d6ca61f8d1b19cb442d9ff0"), looks := false }, kinds := [], alts := [], laidByText := true, laidKinds := [.data, .data, .data], laidTests := true, laidLooks := .later }
def LitBackCardSaid : Prop := Claim7.holds Tryd.pinned (.plain (OpenSpec.ofChange litBackSpec)) litBackCard

/-- THE TIED CARD OF 'gudgeonlaw07.LitJoins'. -/
def litJoinsCard : Claim7 := { stood := { row := litJoinsRow, standIns := [], harness := (true, "588fed5ac8d6e695daa7d9e111d585519857f3504d6ca61f8d1b19cb442d9ff0"), looks := false }, kinds := [], alts := [], laidByText := true, laidKinds := [.data, .data, .data], laidTests := true, laidLooks := .later }
def LitJoinsCardSaid : Prop := Claim7.holds Tryd.pinned (.plain (OpenSpec.ofChange litJoinsSpec)) litJoinsCard

/-- THE TIED CARD OF 'gudgeonlaw07.LitHex'. -/
def litHexCard : Claim7 := { stood := { row := litHexRow, standIns := [], harness := (true, "588fed5ac8d6e695daa7d9e111d585519857f3504d6ca61f8d1b19cb442d9ff0"), looks := false }, kinds := [], alts := [], laidByText := true, laidKinds := [.data, .data, .data], laidTests := true, laidLooks := .later }
def LitHexCardSaid : Prop := Claim7.holds Tryd.pinned (.plain (OpenSpec.ofChange litHexSpec)) litHexCard

/-- THE TIED CARD OF 'gudgeonlaw07.LitEscapes'. -/
def litEscapesCard : Claim7 := { stood := { row := litEscapesRow, standIns := [], harness := (true, "588fed5ac8d6e695daa7d9e111d585519857f3504d6ca61f8d1b19cb442d9ff0"), looks := false }, kinds := [], alts := [], laidByText := true, laidKinds := [.data, .data, .data], laidTests := true, laidLooks := .later }
def LitEscapesCardSaid : Prop := Claim7.holds Tryd.pinned (.plain (OpenSpec.ofChange litEscapesSpec)) litEscapesCard

/-- THE TIED CARD OF 'gudgeonlaw07.LitLists'. -/
def litListsCard : Claim7 := { stood := { row := litListsRow, standIns := [], harness := (true, "588fed5ac8d6e695daa7d9e111d585519857f3504d6ca61f8d1b19cb442d9ff0"), looks := false }, kinds := [], alts := [], laidByText := true, laidKinds := [.data, .data, .data], laidTests := true, laidLooks := .later }
def LitListsCardSaid : Prop := Claim7.holds Tryd.pinned (.plain (OpenSpec.ofChange litListsSpec)) litListsCard

/-- THE TIED CARD OF 'gudgeonlaw07.LitTextBack'. -/
def litTextBackCard : Claim7 := { stood := { row := litTextBackRow, standIns := [], harness := (true, "588fed5ac8d6e695daa7d9e111d585519857f3504d6ca61f8d1b19cb442d9ff0"), looks := false }, kinds := [], alts := [], laidByText := true, laidKinds := [.data, .data, .data], laidTests := true, laidLooks := .later }
def LitTextBackCardSaid : Prop := Claim7.holds Tryd.pinned (.plain (OpenSpec.ofChange litTextBackSpec)) litTextBackCard

/-- THE SECOND FORM's CARD OF 'gudgeonlaw07.LitPoints'. -/
def litPointsUptoCard : Claim7 := { stood := { row := litPointsUptoRow, standIns := [], harness := (true, "588fed5ac8d6e695daa7d9e111d585519857f3504d6ca61f8d1b19cb442d9ff0"), looks := false }, kinds := [], alts := [], laidByText := true, laidKinds := [.data, .data, .data], laidTests := true, laidLooks := .later }
def LitPointsUptoCardSaid : Prop := Claim7.holds Tryd.pinned (.plain (OpenSpec.upto litPointsSpec)) litPointsUptoCard

/-- THE SECOND FORM's CARD OF 'gudgeonlaw07.LitBack'. -/
def litBackUptoCard : Claim7 := { stood := { row := litBackUptoRow, standIns := [], harness := (true, "588fed5ac8d6e695daa7d9e111d585519857f3504d6ca61f8d1b19cb442d9ff0"), looks := false }, kinds := [], alts := [], laidByText := true, laidKinds := [.data, .data, .data], laidTests := true, laidLooks := .later }
def LitBackUptoCardSaid : Prop := Claim7.holds Tryd.pinned (.plain (OpenSpec.upto litBackSpec)) litBackUptoCard

/-- THE SECOND FORM's CARD OF 'gudgeonlaw07.LitJoins'. -/
def litJoinsUptoCard : Claim7 := { stood := { row := litJoinsUptoRow, standIns := [], harness := (true, "588fed5ac8d6e695daa7d9e111d585519857f3504d6ca61f8d1b19cb442d9ff0"), looks := false }, kinds := [], alts := [], laidByText := true, laidKinds := [.data, .data, .data], laidTests := true, laidLooks := .later }
def LitJoinsUptoCardSaid : Prop := Claim7.holds Tryd.pinned (.plain (OpenSpec.upto litJoinsSpec)) litJoinsUptoCard

/-- THE SECOND FORM's CARD OF 'gudgeonlaw07.LitHex'. -/
def litHexUptoCard : Claim7 := { stood := { row := litHexUptoRow, standIns := [], harness := (true, "588fed5ac8d6e695daa7d9e111d585519857f3504d6ca61f8d1b19cb442d9ff0"), looks := false }, kinds := [], alts := [], laidByText := true, laidKinds := [.data, .data, .data], laidTests := true, laidLooks := .later }
def LitHexUptoCardSaid : Prop := Claim7.holds Tryd.pinned (.plain (OpenSpec.upto litHexSpec)) litHexUptoCard

/-- THE SECOND FORM's CARD OF 'gudgeonlaw07.LitEscapes'. -/
def litEscapesUptoCard : Claim7 := { stood := { row := litEscapesUptoRow, standIns := [], harness := (true, "588fed5ac8d6e695daa7d9e111d585519857f3504d6ca61f8d1b19cb442d9ff0"), looks := false }, kinds := [], alts := [], laidByText := true, laidKinds := [.data, .data, .data], laidTests := true, laidLooks := .later }
def LitEscapesUptoCardSaid : Prop := Claim7.holds Tryd.pinned (.plain (OpenSpec.upto litEscapesSpec)) litEscapesUptoCard

/-- THE SECOND FORM's CARD OF 'gudgeonlaw07.LitLists'. -/
def litListsUptoCard : Claim7 := { stood := { row := litListsUptoRow, standIns := [], harness := (true, "588fed5ac8d6e695daa7d9e111d585519857f3504d6ca61f8d1b19cb442d9ff0"), looks := false }, kinds := [], alts := [], laidByText := true, laidKinds := [.data, .data, .data], laidTests := true, laidLooks := .later }
def LitListsUptoCardSaid : Prop := Claim7.holds Tryd.pinned (.plain (OpenSpec.upto litListsSpec)) litListsUptoCard

/-- THE SECOND FORM's CARD OF 'gudgeonlaw07.LitTextBack'. -/
def litTextBackUptoCard : Claim7 := { stood := { row := litTextBackUptoRow, standIns := [], harness := (true, "588fed5ac8d6e695daa7d9e111d585519857f3504d6ca61f8d1b19cb442d9ff0"), looks := false }, kinds := [], alts := [], laidByText := true, laidKinds := [.data, .data, .data], laidTests := true, laidLooks := .later }
def LitTextBackUptoCardSaid : Prop := Claim7.holds Tryd.pinned (.plain (OpenSpec.upto litTextBackSpec)) litTextBackUptoCard
end Rows
end Go.Proofs.YtjpcbflkgldokaaDoor
