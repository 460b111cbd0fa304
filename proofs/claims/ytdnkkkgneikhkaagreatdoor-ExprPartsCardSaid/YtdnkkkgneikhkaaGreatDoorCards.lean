/-
  DERIVED. GIVEN WITH THE SEED: THE CARDS: each row of YtdnkkkgneikhkaaGreatDoorRows.lean that lists a variable, with what it lists TIED to the program's text (the seventh form; the later family's looks); each row that meets fmt, with fmt's text TOLD by the authors' own Lean function (tested against real Go, not proved from fmt's source: count such statements apart). THE CARD IS WHAT COUNTS. Prove the row's statement (the work); the ties are given (YtdnkkkgneikhkaaGreatDoorTie.lean); close each card by the builder's one call (the guide's Derived/Test/ToyasCard.lean, 'card_holds'). Laid BY PROGRAM, IN A SANDBOX (cutbox-door.mjs). By AI agents, Wed Nov 11 2026. No macro, syntax, notation, axiom, sorry.
-/
import Derived.Test.YtdnkkkgneikhkaaGreatDoorRows
import GoSem.ClaimSeven
namespace Go.Proofs.YtdnkkkgneikhkaaGreatDoor
namespace Rows

/-- THE TIED CARD OF 'caddislaw04.ExprParts'. -/
def exprPartsCard : Claim7 := { stood := { row := exprPartsRow, standIns := [], harness := (true, "f5f0081f82cd966db9f2fbd6340c012cc098826cb4a497236b842ae6cf2d81bf"), looks := true }, kinds := [], alts := [], laidByText := true, laidKinds := [.data, .data, .data, .data, .sentinel, .sentinel, .pinned, .pinned], laidTests := true, laidLooks := .later }
def ExprPartsCardSaid : Prop := Claim7.holds Tryz.pinned (.plain (OpenSpec.ofChange exprPartsSpec)) exprPartsCard

/-- THE TIED CARD OF 'caddislaw04.ExprTruths'. -/
def exprTruthsCard : Claim7 := { stood := { row := exprTruthsRow, standIns := [], harness := (true, "f5f0081f82cd966db9f2fbd6340c012cc098826cb4a497236b842ae6cf2d81bf"), looks := true }, kinds := [], alts := [], laidByText := true, laidKinds := [.data, .data, .data, .data, .sentinel, .sentinel, .pinned, .pinned], laidTests := true, laidLooks := .later }
def ExprTruthsCardSaid : Prop := Claim7.holds Tryz.pinned (.plain (OpenSpec.ofChange exprTruthsSpec)) exprTruthsCard

/-- THE TIED CARD OF 'caddislaw04.ExprWords'. -/
def exprWordsCard : Claim7 := { stood := { row := exprWordsRow, standIns := [], harness := (true, "f5f0081f82cd966db9f2fbd6340c012cc098826cb4a497236b842ae6cf2d81bf"), looks := true }, kinds := [], alts := [], laidByText := true, laidKinds := [.data, .data, .data, .data, .sentinel, .sentinel, .pinned, .pinned], laidTests := true, laidLooks := .later }
def ExprWordsCardSaid : Prop := Claim7.holds Tryz.pinned (.plain (OpenSpec.ofChange exprWordsSpec)) exprWordsCard

/-- THE TIED CARD OF 'caddislaw05.StmtApart'. -/
def stmtApartCard : Claim7 := { stood := { row := stmtApartRow, standIns := [], harness := (true, "f5f0081f82cd966db9f2fbd6340c012cc098826cb4a497236b842ae6cf2d81bf"), looks := true }, kinds := [], alts := [], laidByText := true, laidKinds := [.data, .data, .data, .data, .sentinel, .sentinel, .data, .pinned, .pinned], laidTests := true, laidLooks := .later }
def StmtApartCardSaid : Prop := Claim7.holds Tryz.pinned (.plain (OpenSpec.ofChange stmtApartSpec)) stmtApartCard

/-- THE TIED CARD OF 'caddislaw05.StmtMore'. -/
def stmtMoreCard : Claim7 := { stood := { row := stmtMoreRow, standIns := [], harness := (true, "f5f0081f82cd966db9f2fbd6340c012cc098826cb4a497236b842ae6cf2d81bf"), looks := true }, kinds := [], alts := [], laidByText := true, laidKinds := [.data, .data, .data, .data, .sentinel, .sentinel, .data, .pinned, .pinned], laidTests := true, laidLooks := .later }
def StmtMoreCardSaid : Prop := Claim7.holds Tryz.pinned (.plain (OpenSpec.ofChange stmtMoreSpec)) stmtMoreCard

/-- THE TIED CARD OF 'caddislaw05.StmtRights'. -/
def stmtRightsCard : Claim7 := { stood := { row := stmtRightsRow, standIns := [], harness := (true, "f5f0081f82cd966db9f2fbd6340c012cc098826cb4a497236b842ae6cf2d81bf"), looks := true }, kinds := [], alts := [], laidByText := true, laidKinds := [.data, .data, .data, .data, .sentinel, .sentinel, .data, .pinned, .pinned], laidTests := true, laidLooks := .later }
def StmtRightsCardSaid : Prop := Claim7.holds Tryz.pinned (.plain (OpenSpec.ofChange stmtRightsSpec)) stmtRightsCard

/-- THE SECOND FORM's CARD OF 'caddislaw04.ExprParts'. -/
def exprPartsUptoCard : Claim7 := { stood := { row := exprPartsUptoRow, standIns := [], harness := (true, "f5f0081f82cd966db9f2fbd6340c012cc098826cb4a497236b842ae6cf2d81bf"), looks := true }, kinds := [], alts := [], laidByText := true, laidKinds := [.data, .data, .data, .data, .sentinel, .sentinel, .pinned, .pinned], laidTests := true, laidLooks := .later }
def ExprPartsUptoCardSaid : Prop := Claim7.holds Tryz.pinned (.plain (OpenSpec.upto exprPartsSpec)) exprPartsUptoCard

/-- THE SECOND FORM's CARD OF 'caddislaw04.ExprTruths'. -/
def exprTruthsUptoCard : Claim7 := { stood := { row := exprTruthsUptoRow, standIns := [], harness := (true, "f5f0081f82cd966db9f2fbd6340c012cc098826cb4a497236b842ae6cf2d81bf"), looks := true }, kinds := [], alts := [], laidByText := true, laidKinds := [.data, .data, .data, .data, .sentinel, .sentinel, .pinned, .pinned], laidTests := true, laidLooks := .later }
def ExprTruthsUptoCardSaid : Prop := Claim7.holds Tryz.pinned (.plain (OpenSpec.upto exprTruthsSpec)) exprTruthsUptoCard

/-- THE SECOND FORM's CARD OF 'caddislaw04.ExprWords'. -/
def exprWordsUptoCard : Claim7 := { stood := { row := exprWordsUptoRow, standIns := [], harness := (true, "f5f0081f82cd966db9f2fbd6340c012cc098826cb4a497236b842ae6cf2d81bf"), looks := true }, kinds := [], alts := [], laidByText := true, laidKinds := [.data, .data, .data, .data, .sentinel, .sentinel, .pinned, .pinned], laidTests := true, laidLooks := .later }
def ExprWordsUptoCardSaid : Prop := Claim7.holds Tryz.pinned (.plain (OpenSpec.upto exprWordsSpec)) exprWordsUptoCard

/-- THE SECOND FORM's CARD OF 'caddislaw05.StmtApart'. -/
def stmtApartUptoCard : Claim7 := { stood := { row := stmtApartUptoRow, standIns := [], harness := (true, "f5f0081f82cd966db9f2fbd6340c012cc098826cb4a497236b842ae6cf2d81bf"), looks := true }, kinds := [], alts := [], laidByText := true, laidKinds := [.data, .data, .data, .data, .sentinel, .sentinel, .data, .pinned, .pinned], laidTests := true, laidLooks := .later }
def StmtApartUptoCardSaid : Prop := Claim7.holds Tryz.pinned (.plain (OpenSpec.upto stmtApartSpec)) stmtApartUptoCard

/-- THE SECOND FORM's CARD OF 'caddislaw05.StmtMore'. -/
def stmtMoreUptoCard : Claim7 := { stood := { row := stmtMoreUptoRow, standIns := [], harness := (true, "f5f0081f82cd966db9f2fbd6340c012cc098826cb4a497236b842ae6cf2d81bf"), looks := true }, kinds := [], alts := [], laidByText := true, laidKinds := [.data, .data, .data, .data, .sentinel, .sentinel, .data, .pinned, .pinned], laidTests := true, laidLooks := .later }
def StmtMoreUptoCardSaid : Prop := Claim7.holds Tryz.pinned (.plain (OpenSpec.upto stmtMoreSpec)) stmtMoreUptoCard

/-- THE SECOND FORM's CARD OF 'caddislaw05.StmtRights'. -/
def stmtRightsUptoCard : Claim7 := { stood := { row := stmtRightsUptoRow, standIns := [], harness := (true, "f5f0081f82cd966db9f2fbd6340c012cc098826cb4a497236b842ae6cf2d81bf"), looks := true }, kinds := [], alts := [], laidByText := true, laidKinds := [.data, .data, .data, .data, .sentinel, .sentinel, .data, .pinned, .pinned], laidTests := true, laidLooks := .later }
def StmtRightsUptoCardSaid : Prop := Claim7.holds Tryz.pinned (.plain (OpenSpec.upto stmtRightsSpec)) stmtRightsUptoCard
end Rows
end Go.Proofs.YtdnkkkgneikhkaaGreatDoor
