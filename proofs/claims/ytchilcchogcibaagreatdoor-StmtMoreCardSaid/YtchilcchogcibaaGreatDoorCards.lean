/-
  DERIVED. GIVEN WITH THE SEED: THE CARDS: each row of YtchilcchogcibaaGreatDoorRows.lean that lists a variable, with what it lists TIED to the program's text (the seventh form; the later family's looks); each row that meets fmt, with fmt's text TOLD by the authors' own Lean function (tested against real Go, not proved from fmt's source: count such statements apart). THE CARD IS WHAT COUNTS. Prove the row's statement (the work); the ties are given (YtchilcchogcibaaGreatDoorTie.lean); close each card by the builder's one call (the guide's Derived/Test/ToyasCard.lean, 'card_holds'). Laid BY PROGRAM, IN A SANDBOX (cutbox-door.mjs). By AI agents, Wed Nov 11 2026. No macro, syntax, notation, axiom, sorry.
-/
import Derived.Test.YtchilcchogcibaaGreatDoorRows
import GoSem.ClaimSeven
namespace Go.Proofs.YtchilcchogcibaaGreatDoor
namespace Rows

/-- THE TIED CARD OF 'caddislaw09.GrantDoes'. -/
def grantDoesCard : Claim7 := { stood := { row := grantDoesRow, standIns := [], harness := (true, "1a5ff3463d36793463a21a056c8de8c8ddd24169fad8c8a1341ae840f0eaa5ea"), looks := true }, kinds := [], alts := [], laidByText := true, laidKinds := [.data, .data, .data, .data, .data, .pinned, .pinned], laidTests := true, laidLooks := .later }
def GrantDoesCardSaid : Prop := Claim7.holds Tryz.pinned (.plain (OpenSpec.ofChange grantDoesSpec)) grantDoesCard

/-- THE TIED CARD OF 'caddislaw09.GrantStays'. -/
def grantStaysCard : Claim7 := { stood := { row := grantStaysRow, standIns := [], harness := (true, "1a5ff3463d36793463a21a056c8de8c8ddd24169fad8c8a1341ae840f0eaa5ea"), looks := true }, kinds := [], alts := [], laidByText := true, laidKinds := [.data, .data, .data, .data, .data, .pinned, .pinned], laidTests := true, laidLooks := .later }
def GrantStaysCardSaid : Prop := Claim7.holds Tryz.pinned (.plain (OpenSpec.ofChange grantStaysSpec)) grantStaysCard

/-- THE TIED CARD OF 'caddislaw09.GrantTurns'. -/
def grantTurnsCard : Claim7 := { stood := { row := grantTurnsRow, standIns := [], harness := (true, "1a5ff3463d36793463a21a056c8de8c8ddd24169fad8c8a1341ae840f0eaa5ea"), looks := true }, kinds := [], alts := [], laidByText := true, laidKinds := [.data, .data, .data, .data, .data, .pinned, .pinned], laidTests := true, laidLooks := .later }
def GrantTurnsCardSaid : Prop := Claim7.holds Tryz.pinned (.plain (OpenSpec.ofChange grantTurnsSpec)) grantTurnsCard

/-- THE TIED CARD OF 'caddislaw09.GrantAdmin'. -/
def grantAdminCard : Claim7 := { stood := { row := grantAdminRow, standIns := [], harness := (true, "1a5ff3463d36793463a21a056c8de8c8ddd24169fad8c8a1341ae840f0eaa5ea"), looks := true }, kinds := [], alts := [], laidByText := true, laidKinds := [.data, .data, .data, .data, .data, .pinned, .pinned], laidTests := true, laidLooks := .later }
def GrantAdminCardSaid : Prop := Claim7.holds Tryz.pinned (.plain (OpenSpec.ofChange grantAdminSpec)) grantAdminCard

/-- THE TIED CARD OF 'caddislaw09.GrantMoves'. -/
def grantMovesCard : Claim7 := { stood := { row := grantMovesRow, standIns := [], harness := (true, "1a5ff3463d36793463a21a056c8de8c8ddd24169fad8c8a1341ae840f0eaa5ea"), looks := true }, kinds := [], alts := [], laidByText := true, laidKinds := [.data, .data, .data, .data, .data, .pinned, .pinned], laidTests := true, laidLooks := .later }
def GrantMovesCardSaid : Prop := Claim7.holds Tryz.pinned (.plain (OpenSpec.ofChange grantMovesSpec)) grantMovesCard

/-- THE TIED CARD OF 'caddislaw09.GrantBoth'. -/
def grantBothCard : Claim7 := { stood := { row := grantBothRow, standIns := [], harness := (true, "1a5ff3463d36793463a21a056c8de8c8ddd24169fad8c8a1341ae840f0eaa5ea"), looks := true }, kinds := [], alts := [], laidByText := true, laidKinds := [.data, .data, .data, .data, .data, .pinned, .pinned], laidTests := true, laidLooks := .later }
def GrantBothCardSaid : Prop := Claim7.holds Tryz.pinned (.plain (OpenSpec.ofChange grantBothSpec)) grantBothCard

/-- THE TIED CARD OF 'caddislaw05.StmtApart'. -/
def stmtApartCard : Claim7 := { stood := { row := stmtApartRow, standIns := [], harness := (true, "1a5ff3463d36793463a21a056c8de8c8ddd24169fad8c8a1341ae840f0eaa5ea"), looks := true }, kinds := [], alts := [], laidByText := true, laidKinds := [.data, .data, .data, .data, .sentinel, .sentinel, .data, .pinned, .pinned], laidTests := true, laidLooks := .later }
def StmtApartCardSaid : Prop := Claim7.holds Tryz.pinned (.plain (OpenSpec.ofChange stmtApartSpec)) stmtApartCard

/-- THE TIED CARD OF 'caddislaw05.StmtMore'. -/
def stmtMoreCard : Claim7 := { stood := { row := stmtMoreRow, standIns := [], harness := (true, "1a5ff3463d36793463a21a056c8de8c8ddd24169fad8c8a1341ae840f0eaa5ea"), looks := true }, kinds := [], alts := [], laidByText := true, laidKinds := [.data, .data, .data, .data, .sentinel, .sentinel, .data, .pinned, .pinned], laidTests := true, laidLooks := .later }
def StmtMoreCardSaid : Prop := Claim7.holds Tryz.pinned (.plain (OpenSpec.ofChange stmtMoreSpec)) stmtMoreCard

/-- THE TIED CARD OF 'caddislaw05.StmtRights'. -/
def stmtRightsCard : Claim7 := { stood := { row := stmtRightsRow, standIns := [], harness := (true, "1a5ff3463d36793463a21a056c8de8c8ddd24169fad8c8a1341ae840f0eaa5ea"), looks := true }, kinds := [], alts := [], laidByText := true, laidKinds := [.data, .data, .data, .data, .sentinel, .sentinel, .data, .pinned, .pinned], laidTests := true, laidLooks := .later }
def StmtRightsCardSaid : Prop := Claim7.holds Tryz.pinned (.plain (OpenSpec.ofChange stmtRightsSpec)) stmtRightsCard

/-- THE SECOND FORM's CARD OF 'caddislaw09.GrantDoes'. -/
def grantDoesUptoCard : Claim7 := { stood := { row := grantDoesUptoRow, standIns := [], harness := (true, "1a5ff3463d36793463a21a056c8de8c8ddd24169fad8c8a1341ae840f0eaa5ea"), looks := true }, kinds := [], alts := [], laidByText := true, laidKinds := [.data, .data, .data, .data, .data, .pinned, .pinned], laidTests := true, laidLooks := .later }
def GrantDoesUptoCardSaid : Prop := Claim7.holds Tryz.pinned (.plain (OpenSpec.upto grantDoesSpec)) grantDoesUptoCard

/-- THE SECOND FORM's CARD OF 'caddislaw09.GrantStays'. -/
def grantStaysUptoCard : Claim7 := { stood := { row := grantStaysUptoRow, standIns := [], harness := (true, "1a5ff3463d36793463a21a056c8de8c8ddd24169fad8c8a1341ae840f0eaa5ea"), looks := true }, kinds := [], alts := [], laidByText := true, laidKinds := [.data, .data, .data, .data, .data, .pinned, .pinned], laidTests := true, laidLooks := .later }
def GrantStaysUptoCardSaid : Prop := Claim7.holds Tryz.pinned (.plain (OpenSpec.upto grantStaysSpec)) grantStaysUptoCard

/-- THE SECOND FORM's CARD OF 'caddislaw09.GrantTurns'. -/
def grantTurnsUptoCard : Claim7 := { stood := { row := grantTurnsUptoRow, standIns := [], harness := (true, "1a5ff3463d36793463a21a056c8de8c8ddd24169fad8c8a1341ae840f0eaa5ea"), looks := true }, kinds := [], alts := [], laidByText := true, laidKinds := [.data, .data, .data, .data, .data, .pinned, .pinned], laidTests := true, laidLooks := .later }
def GrantTurnsUptoCardSaid : Prop := Claim7.holds Tryz.pinned (.plain (OpenSpec.upto grantTurnsSpec)) grantTurnsUptoCard

/-- THE SECOND FORM's CARD OF 'caddislaw09.GrantAdmin'. -/
def grantAdminUptoCard : Claim7 := { stood := { row := grantAdminUptoRow, standIns := [], harness := (true, "1a5ff3463d36793463a21a056c8de8c8ddd24169fad8c8a1341ae840f0eaa5ea"), looks := true }, kinds := [], alts := [], laidByText := true, laidKinds := [.data, .data, .data, .data, .data, .pinned, .pinned], laidTests := true, laidLooks := .later }
def GrantAdminUptoCardSaid : Prop := Claim7.holds Tryz.pinned (.plain (OpenSpec.upto grantAdminSpec)) grantAdminUptoCard

/-- THE SECOND FORM's CARD OF 'caddislaw09.GrantMoves'. -/
def grantMovesUptoCard : Claim7 := { stood := { row := grantMovesUptoRow, standIns := [], harness := (true, "1a5ff3463d36793463a21a056c8de8c8ddd24169fad8c8a1341ae840f0eaa5ea"), looks := true }, kinds := [], alts := [], laidByText := true, laidKinds := [.data, .data, .data, .data, .data, .pinned, .pinned], laidTests := true, laidLooks := .later }
def GrantMovesUptoCardSaid : Prop := Claim7.holds Tryz.pinned (.plain (OpenSpec.upto grantMovesSpec)) grantMovesUptoCard

/-- THE SECOND FORM's CARD OF 'caddislaw09.GrantBoth'. -/
def grantBothUptoCard : Claim7 := { stood := { row := grantBothUptoRow, standIns := [], harness := (true, "1a5ff3463d36793463a21a056c8de8c8ddd24169fad8c8a1341ae840f0eaa5ea"), looks := true }, kinds := [], alts := [], laidByText := true, laidKinds := [.data, .data, .data, .data, .data, .pinned, .pinned], laidTests := true, laidLooks := .later }
def GrantBothUptoCardSaid : Prop := Claim7.holds Tryz.pinned (.plain (OpenSpec.upto grantBothSpec)) grantBothUptoCard

/-- THE SECOND FORM's CARD OF 'caddislaw05.StmtApart'. -/
def stmtApartUptoCard : Claim7 := { stood := { row := stmtApartUptoRow, standIns := [], harness := (true, "1a5ff3463d36793463a21a056c8de8c8ddd24169fad8c8a1341ae840f0eaa5ea"), looks := true }, kinds := [], alts := [], laidByText := true, laidKinds := [.data, .data, .data, .data, .sentinel, .sentinel, .data, .pinned, .pinned], laidTests := true, laidLooks := .later }
def StmtApartUptoCardSaid : Prop := Claim7.holds Tryz.pinned (.plain (OpenSpec.upto stmtApartSpec)) stmtApartUptoCard

/-- THE SECOND FORM's CARD OF 'caddislaw05.StmtMore'. -/
def stmtMoreUptoCard : Claim7 := { stood := { row := stmtMoreUptoRow, standIns := [], harness := (true, "1a5ff3463d36793463a21a056c8de8c8ddd24169fad8c8a1341ae840f0eaa5ea"), looks := true }, kinds := [], alts := [], laidByText := true, laidKinds := [.data, .data, .data, .data, .sentinel, .sentinel, .data, .pinned, .pinned], laidTests := true, laidLooks := .later }
def StmtMoreUptoCardSaid : Prop := Claim7.holds Tryz.pinned (.plain (OpenSpec.upto stmtMoreSpec)) stmtMoreUptoCard

/-- THE SECOND FORM's CARD OF 'caddislaw05.StmtRights'. -/
def stmtRightsUptoCard : Claim7 := { stood := { row := stmtRightsUptoRow, standIns := [], harness := (true, "1a5ff3463d36793463a21a056c8de8c8ddd24169fad8c8a1341ae840f0eaa5ea"), looks := true }, kinds := [], alts := [], laidByText := true, laidKinds := [.data, .data, .data, .data, .sentinel, .sentinel, .data, .pinned, .pinned], laidTests := true, laidLooks := .later }
def StmtRightsUptoCardSaid : Prop := Claim7.holds Tryz.pinned (.plain (OpenSpec.upto stmtRightsSpec)) stmtRightsUptoCard
end Rows
end Go.Proofs.YtchilcchogcibaaGreatDoor
