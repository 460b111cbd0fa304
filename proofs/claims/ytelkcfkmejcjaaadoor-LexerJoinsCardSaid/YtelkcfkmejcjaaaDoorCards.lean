/-
  DERIVED. GIVEN WITH THE SEED: THE CARDS: each row of YtelkcfkmejcjaaaDoorRows.lean that lists a variable, with what it lists TIED to the program's text (the seventh form; the later family's looks); each row that meets fmt, with fmt's text TOLD by the authors' own Lean function (tested against real Go, not proved from fmt's source: count such statements apart). THE CARD IS WHAT COUNTS. Prove the row's statement (the work); the ties are given (YtelkcfkmejcjaaaDoorTie.lean); close each card by the builder's one call (the guide's Derived/Test/ToyasCard.lean, 'card_holds'). Laid BY PROGRAM, IN A SANDBOX (cutbox-door.mjs). By AI agents, Wed Nov 11 2026. No macro, syntax, notation, axiom, sorry.
-/
import Derived.Test.YtelkcfkmejcjaaaDoorRows
import GoSem.ClaimSeven
namespace Go.Proofs.YtelkcfkmejcjaaaDoor
namespace Rows

/-- THE TIED CARD OF 'caddislaw01.ValueApart'. -/
def valueApartCard : Claim7 := { stood := { row := valueApartRow, standIns := [], harness := (true, "f717b51fd4da42844e2a4dfcf4c23c3012a513d7f57e29ce6cfe68a123c6430a"), looks := true }, kinds := [], alts := [], laidByText := true, laidKinds := [.data, .data, .data, .data, .pinned], laidTests := true, laidLooks := .later }
def ValueApartCardSaid : Prop := Claim7.holds Tryd.pinned (.plain (OpenSpec.ofChange valueApartSpec)) valueApartCard

/-- THE TIED CARD OF 'caddislaw01.ValueOrders'. -/
def valueOrdersCard : Claim7 := { stood := { row := valueOrdersRow, standIns := [], harness := (true, "f717b51fd4da42844e2a4dfcf4c23c3012a513d7f57e29ce6cfe68a123c6430a"), looks := true }, kinds := [], alts := [], laidByText := true, laidKinds := [.data, .data, .data, .data, .pinned], laidTests := true, laidLooks := .later }
def ValueOrdersCardSaid : Prop := Claim7.holds Tryd.pinned (.plain (OpenSpec.ofChange valueOrdersSpec)) valueOrdersCard

/-- THE TIED CARD OF 'caddislaw01.ValueLess'. -/
def valueLessCard : Claim7 := { stood := { row := valueLessRow, standIns := [], harness := (true, "f717b51fd4da42844e2a4dfcf4c23c3012a513d7f57e29ce6cfe68a123c6430a"), looks := true }, kinds := [], alts := [], laidByText := true, laidKinds := [.data, .data, .data, .data, .pinned], laidTests := true, laidLooks := .later }
def ValueLessCardSaid : Prop := Claim7.holds Tryd.pinned (.plain (OpenSpec.ofChange valueLessSpec)) valueLessCard

/-- THE TIED CARD OF 'caddislaw01.ValueBack'. -/
def valueBackCard : Claim7 := { stood := { row := valueBackRow, standIns := [], harness := (true, "f717b51fd4da42844e2a4dfcf4c23c3012a513d7f57e29ce6cfe68a123c6430a"), looks := true }, kinds := [], alts := [], laidByText := true, laidKinds := [.data, .data, .data, .data, .pinned], laidTests := true, laidLooks := .later }
def ValueBackCardSaid : Prop := Claim7.holds Tryd.pinned (.plain (OpenSpec.ofChange valueBackSpec)) valueBackCard

/-- THE TIED CARD OF 'caddislaw01.ValueSums'. -/
def valueSumsCard : Claim7 := { stood := { row := valueSumsRow, standIns := [], harness := (true, "f717b51fd4da42844e2a4dfcf4c23c3012a513d7f57e29ce6cfe68a123c6430a"), looks := true }, kinds := [], alts := [], laidByText := true, laidKinds := [.data, .data, .data, .data, .pinned], laidTests := true, laidLooks := .later }
def ValueSumsCardSaid : Prop := Claim7.holds Tryd.pinned (.plain (OpenSpec.ofChange valueSumsSpec)) valueSumsCard

/-- THE TIED CARD OF 'caddislaw01.ValueLogic'. -/
def valueLogicCard : Claim7 := { stood := { row := valueLogicRow, standIns := [], harness := (true, "f717b51fd4da42844e2a4dfcf4c23c3012a513d7f57e29ce6cfe68a123c6430a"), looks := true }, kinds := [], alts := [], laidByText := true, laidKinds := [.data, .data, .data, .data, .pinned], laidTests := true, laidLooks := .later }
def ValueLogicCardSaid : Prop := Claim7.holds Tryd.pinned (.plain (OpenSpec.ofChange valueLogicSpec)) valueLogicCard

/-- THE TIED CARD OF 'caddislaw01.ValueReckons'. -/
def valueReckonsCard : Claim7 := { stood := { row := valueReckonsRow, standIns := [], harness := (true, "f717b51fd4da42844e2a4dfcf4c23c3012a513d7f57e29ce6cfe68a123c6430a"), looks := true }, kinds := [], alts := [], laidByText := true, laidKinds := [.data, .data, .data, .data, .pinned], laidTests := true, laidLooks := .later }
def ValueReckonsCardSaid : Prop := Claim7.holds Tryd.pinned (.plain (OpenSpec.ofChange valueReckonsSpec)) valueReckonsCard

/-- THE TIED CARD OF 'caddislaw01.ValueTurns'. -/
def valueTurnsCard : Claim7 := { stood := { row := valueTurnsRow, standIns := [], harness := (true, "f717b51fd4da42844e2a4dfcf4c23c3012a513d7f57e29ce6cfe68a123c6430a"), looks := true }, kinds := [], alts := [], laidByText := true, laidKinds := [.data, .data, .data, .data, .pinned], laidTests := true, laidLooks := .later }
def ValueTurnsCardSaid : Prop := Claim7.holds Tryd.pinned (.plain (OpenSpec.ofChange valueTurnsSpec)) valueTurnsCard

/-- THE TIED CARD OF 'caddislaw01.ValueNulls'. -/
def valueNullsCard : Claim7 := { stood := { row := valueNullsRow, standIns := [], harness := (true, "f717b51fd4da42844e2a4dfcf4c23c3012a513d7f57e29ce6cfe68a123c6430a"), looks := true }, kinds := [], alts := [], laidByText := true, laidKinds := [.data, .data, .data, .data, .pinned], laidTests := true, laidLooks := .later }
def ValueNullsCardSaid : Prop := Claim7.holds Tryd.pinned (.plain (OpenSpec.ofChange valueNullsSpec)) valueNullsCard

/-- THE TIED CARD OF 'caddislaw01.ValueTexts'. -/
def valueTextsCard : Claim7 := { stood := { row := valueTextsRow, standIns := [], harness := (true, "f717b51fd4da42844e2a4dfcf4c23c3012a513d7f57e29ce6cfe68a123c6430a"), looks := true }, kinds := [], alts := [], laidByText := true, laidKinds := [.data, .data, .data, .data, .sentinel, .sentinel, .pinned], laidTests := true, laidLooks := .later }
def ValueTextsCardSaid : Prop := Claim7.holds Tryd.pinned (.plain (OpenSpec.ofChange valueTextsSpec)) valueTextsCard

/-- THE TIED CARD OF 'caddislaw03.LexerJoins'. -/
def lexerJoinsCard : Claim7 := { stood := { row := lexerJoinsRow, standIns := [], harness := (true, "f717b51fd4da42844e2a4dfcf4c23c3012a513d7f57e29ce6cfe68a123c6430a"), looks := true }, kinds := [], alts := [], laidByText := true, laidKinds := [.data, .data, .data, .data, .pinned], laidTests := true, laidLooks := .later }
def LexerJoinsCardSaid : Prop := Claim7.holds Tryd.pinned (.plain (OpenSpec.ofChange lexerJoinsSpec)) lexerJoinsCard

/-- THE TIED CARD OF 'caddislaw03.LexerAgain'. -/
def lexerAgainCard : Claim7 := { stood := { row := lexerAgainRow, standIns := [], harness := (true, "f717b51fd4da42844e2a4dfcf4c23c3012a513d7f57e29ce6cfe68a123c6430a"), looks := true }, kinds := [], alts := [], laidByText := true, laidKinds := [.data, .data, .data, .data, .pinned], laidTests := true, laidLooks := .later }
def LexerAgainCardSaid : Prop := Claim7.holds Tryd.pinned (.plain (OpenSpec.ofChange lexerAgainSpec)) lexerAgainCard

/-- THE SECOND FORM's CARD OF 'caddislaw01.ValueApart'. -/
def valueApartUptoCard : Claim7 := { stood := { row := valueApartUptoRow, standIns := [], harness := (true, "f717b51fd4da42844e2a4dfcf4c23c3012a513d7f57e29ce6cfe68a123c6430a"), looks := true }, kinds := [], alts := [], laidByText := true, laidKinds := [.data, .data, .data, .data, .pinned], laidTests := true, laidLooks := .later }
def ValueApartUptoCardSaid : Prop := Claim7.holds Tryd.pinned (.plain (OpenSpec.upto valueApartSpec)) valueApartUptoCard

/-- THE SECOND FORM's CARD OF 'caddislaw01.ValueOrders'. -/
def valueOrdersUptoCard : Claim7 := { stood := { row := valueOrdersUptoRow, standIns := [], harness := (true, "f717b51fd4da42844e2a4dfcf4c23c3012a513d7f57e29ce6cfe68a123c6430a"), looks := true }, kinds := [], alts := [], laidByText := true, laidKinds := [.data, .data, .data, .data, .pinned], laidTests := true, laidLooks := .later }
def ValueOrdersUptoCardSaid : Prop := Claim7.holds Tryd.pinned (.plain (OpenSpec.upto valueOrdersSpec)) valueOrdersUptoCard

/-- THE SECOND FORM's CARD OF 'caddislaw01.ValueLess'. -/
def valueLessUptoCard : Claim7 := { stood := { row := valueLessUptoRow, standIns := [], harness := (true, "f717b51fd4da42844e2a4dfcf4c23c3012a513d7f57e29ce6cfe68a123c6430a"), looks := true }, kinds := [], alts := [], laidByText := true, laidKinds := [.data, .data, .data, .data, .pinned], laidTests := true, laidLooks := .later }
def ValueLessUptoCardSaid : Prop := Claim7.holds Tryd.pinned (.plain (OpenSpec.upto valueLessSpec)) valueLessUptoCard

/-- THE SECOND FORM's CARD OF 'caddislaw01.ValueBack'. -/
def valueBackUptoCard : Claim7 := { stood := { row := valueBackUptoRow, standIns := [], harness := (true, "f717b51fd4da42844e2a4dfcf4c23c3012a513d7f57e29ce6cfe68a123c6430a"), looks := true }, kinds := [], alts := [], laidByText := true, laidKinds := [.data, .data, .data, .data, .pinned], laidTests := true, laidLooks := .later }
def ValueBackUptoCardSaid : Prop := Claim7.holds Tryd.pinned (.plain (OpenSpec.upto valueBackSpec)) valueBackUptoCard

/-- THE SECOND FORM's CARD OF 'caddislaw01.ValueSums'. -/
def valueSumsUptoCard : Claim7 := { stood := { row := valueSumsUptoRow, standIns := [], harness := (true, "f717b51fd4da42844e2a4dfcf4c23c3012a513d7f57e29ce6cfe68a123c6430a"), looks := true }, kinds := [], alts := [], laidByText := true, laidKinds := [.data, .data, .data, .data, .pinned], laidTests := true, laidLooks := .later }
def ValueSumsUptoCardSaid : Prop := Claim7.holds Tryd.pinned (.plain (OpenSpec.upto valueSumsSpec)) valueSumsUptoCard

/-- THE SECOND FORM's CARD OF 'caddislaw01.ValueLogic'. -/
def valueLogicUptoCard : Claim7 := { stood := { row := valueLogicUptoRow, standIns := [], harness := (true, "f717b51fd4da42844e2a4dfcf4c23c3012a513d7f57e29ce6cfe68a123c6430a"), looks := true }, kinds := [], alts := [], laidByText := true, laidKinds := [.data, .data, .data, .data, .pinned], laidTests := true, laidLooks := .later }
def ValueLogicUptoCardSaid : Prop := Claim7.holds Tryd.pinned (.plain (OpenSpec.upto valueLogicSpec)) valueLogicUptoCard

/-- THE SECOND FORM's CARD OF 'caddislaw01.ValueReckons'. -/
def valueReckonsUptoCard : Claim7 := { stood := { row := valueReckonsUptoRow, standIns := [], harness := (true, "f717b51fd4da42844e2a4dfcf4c23c3012a513d7f57e29ce6cfe68a123c6430a"), looks := true }, kinds := [], alts := [], laidByText := true, laidKinds := [.data, .data, .data, .data, .pinned], laidTests := true, laidLooks := .later }
def ValueReckonsUptoCardSaid : Prop := Claim7.holds Tryd.pinned (.plain (OpenSpec.upto valueReckonsSpec)) valueReckonsUptoCard

/-- THE SECOND FORM's CARD OF 'caddislaw01.ValueTurns'. -/
def valueTurnsUptoCard : Claim7 := { stood := { row := valueTurnsUptoRow, standIns := [], harness := (true, "f717b51fd4da42844e2a4dfcf4c23c3012a513d7f57e29ce6cfe68a123c6430a"), looks := true }, kinds := [], alts := [], laidByText := true, laidKinds := [.data, .data, .data, .data, .pinned], laidTests := true, laidLooks := .later }
def ValueTurnsUptoCardSaid : Prop := Claim7.holds Tryd.pinned (.plain (OpenSpec.upto valueTurnsSpec)) valueTurnsUptoCard

/-- THE SECOND FORM's CARD OF 'caddislaw01.ValueNulls'. -/
def valueNullsUptoCard : Claim7 := { stood := { row := valueNullsUptoRow, standIns := [], harness := (true, "f717b51fd4da42844e2a4dfcf4c23c3012a513d7f57e29ce6cfe68a123c6430a"), looks := true }, kinds := [], alts := [], laidByText := true, laidKinds := [.data, .data, .data, .data, .pinned], laidTests := true, laidLooks := .later }
def ValueNullsUptoCardSaid : Prop := Claim7.holds Tryd.pinned (.plain (OpenSpec.upto valueNullsSpec)) valueNullsUptoCard

/-- THE SECOND FORM's CARD OF 'caddislaw01.ValueTexts'. -/
def valueTextsUptoCard : Claim7 := { stood := { row := valueTextsUptoRow, standIns := [], harness := (true, "f717b51fd4da42844e2a4dfcf4c23c3012a513d7f57e29ce6cfe68a123c6430a"), looks := true }, kinds := [], alts := [], laidByText := true, laidKinds := [.data, .data, .data, .data, .sentinel, .sentinel, .pinned], laidTests := true, laidLooks := .later }
def ValueTextsUptoCardSaid : Prop := Claim7.holds Tryd.pinned (.plain (OpenSpec.upto valueTextsSpec)) valueTextsUptoCard

/-- THE SECOND FORM's CARD OF 'caddislaw03.LexerJoins'. -/
def lexerJoinsUptoCard : Claim7 := { stood := { row := lexerJoinsUptoRow, standIns := [], harness := (true, "f717b51fd4da42844e2a4dfcf4c23c3012a513d7f57e29ce6cfe68a123c6430a"), looks := true }, kinds := [], alts := [], laidByText := true, laidKinds := [.data, .data, .data, .data, .pinned], laidTests := true, laidLooks := .later }
def LexerJoinsUptoCardSaid : Prop := Claim7.holds Tryd.pinned (.plain (OpenSpec.upto lexerJoinsSpec)) lexerJoinsUptoCard

/-- THE SECOND FORM's CARD OF 'caddislaw03.LexerAgain'. -/
def lexerAgainUptoCard : Claim7 := { stood := { row := lexerAgainUptoRow, standIns := [], harness := (true, "f717b51fd4da42844e2a4dfcf4c23c3012a513d7f57e29ce6cfe68a123c6430a"), looks := true }, kinds := [], alts := [], laidByText := true, laidKinds := [.data, .data, .data, .data, .pinned], laidTests := true, laidLooks := .later }
def LexerAgainUptoCardSaid : Prop := Claim7.holds Tryd.pinned (.plain (OpenSpec.upto lexerAgainSpec)) lexerAgainUptoCard
end Rows
end Go.Proofs.YtelkcfkmejcjaaaDoor
