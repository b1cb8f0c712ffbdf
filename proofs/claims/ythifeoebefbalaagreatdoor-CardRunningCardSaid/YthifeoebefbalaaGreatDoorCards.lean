/-
  DERIVED. GIVEN WITH THE SEED: THE CARDS: each row of YthifeoebefbalaaGreatDoorRows.lean that lists a variable, with what it lists TIED to the program's text (the seventh form; the later family's looks); each row that meets fmt, with fmt's text TOLD by the authors' own Lean function (tested against real Go, not proved from fmt's source: count such statements apart). THE CARD IS WHAT COUNTS. Prove the row's statement (the work); the ties are given (YthifeoebefbalaaGreatDoorTie.lean); close each card by the builder's one call (the guide's Derived/Test/ToyasCard.lean, 'card_holds'). Laid BY PROGRAM, IN A SANDBOX (cutbox-door.mjs). By AI agents, Wed Nov 11 2026. No macro, syntax, notation, axiom, sorry.
-/
import Derived.Test.YthifeoebefbalaaGreatDoorRows
import GoSem.ClaimSeven
namespace Go.Proofs.YthifeoebefbalaaGreatDoor
namespace Rows

/-- THE TIED CARD OF 'udometerlaw02.CardReads'. -/
def cardReadsCard : Claim7 := { stood := { row := cardReadsRow, standIns := [], harness := (true, "2e6030dbe1eee0976b695394f5705eeca6910343fdadfbbc215a4c95a54e98ea"), looks := true }, kinds := [], alts := [], laidByText := true, laidKinds := [.data, .data, .data, .data, .sentinel, .sentinel, .pinned], laidTests := true, laidLooks := .later }
def CardReadsCardSaid : Prop := Claim7.holds Tryz.pinned (.plain (OpenSpec.ofChange cardReadsSpec)) cardReadsCard

/-- THE TIED CARD OF 'udometerlaw02.CardWrites'. -/
def cardWritesCard : Claim7 := { stood := { row := cardWritesRow, standIns := [], harness := (true, "2e6030dbe1eee0976b695394f5705eeca6910343fdadfbbc215a4c95a54e98ea"), looks := true }, kinds := [], alts := [], laidByText := true, laidKinds := [.data, .data, .data, .data, .sentinel, .sentinel, .pinned], laidTests := true, laidLooks := .later }
def CardWritesCardSaid : Prop := Claim7.holds Tryz.pinned (.plain (OpenSpec.ofChange cardWritesSpec)) cardWritesCard

/-- THE TIED CARD OF 'udometerlaw02.CardAnyhow'. -/
def cardAnyhowCard : Claim7 := { stood := { row := cardAnyhowRow, standIns := [], harness := (true, "2e6030dbe1eee0976b695394f5705eeca6910343fdadfbbc215a4c95a54e98ea"), looks := true }, kinds := [], alts := [], laidByText := true, laidKinds := [.data, .data, .data, .data, .sentinel, .sentinel, .pinned], laidTests := true, laidLooks := .later }
def CardAnyhowCardSaid : Prop := Claim7.holds Tryz.pinned (.plain (OpenSpec.ofChange cardAnyhowSpec)) cardAnyhowCard

/-- THE TIED CARD OF 'udometerlaw02.CardDates'. -/
def cardDatesCard : Claim7 := { stood := { row := cardDatesRow, standIns := [], harness := (true, "2e6030dbe1eee0976b695394f5705eeca6910343fdadfbbc215a4c95a54e98ea"), looks := true }, kinds := [], alts := [], laidByText := true, laidKinds := [.data, .data, .data, .data, .sentinel, .sentinel, .pinned], laidTests := true, laidLooks := .later }
def CardDatesCardSaid : Prop := Claim7.holds Tryz.pinned (.plain (OpenSpec.ofChange cardDatesSpec)) cardDatesCard

/-- THE TIED CARD OF 'udometerlaw02.CardAmounts'. -/
def cardAmountsCard : Claim7 := { stood := { row := cardAmountsRow, standIns := [], harness := (true, "2e6030dbe1eee0976b695394f5705eeca6910343fdadfbbc215a4c95a54e98ea"), looks := true }, kinds := [], alts := [], laidByText := true, laidKinds := [.data, .data, .data, .data, .sentinel, .sentinel, .pinned], laidTests := true, laidLooks := .later }
def CardAmountsCardSaid : Prop := Claim7.holds Tryz.pinned (.plain (OpenSpec.ofChange cardAmountsSpec)) cardAmountsCard

/-- THE TIED CARD OF 'udometerlaw02.CardSheetwise'. -/
def cardSheetwiseCard : Claim7 := { stood := { row := cardSheetwiseRow, standIns := [], harness := (true, "2e6030dbe1eee0976b695394f5705eeca6910343fdadfbbc215a4c95a54e98ea"), looks := true }, kinds := [], alts := [], laidByText := true, laidKinds := [.data, .data, .data, .data, .sentinel, .sentinel, .pinned], laidTests := true, laidLooks := .later }
def CardSheetwiseCardSaid : Prop := Claim7.holds Tryz.pinned (.plain (OpenSpec.ofChange cardSheetwiseSpec)) cardSheetwiseCard

/-- THE TIED CARD OF 'udometerlaw02.CardMoves'. -/
def cardMovesCard : Claim7 := { stood := { row := cardMovesRow, standIns := [], harness := (true, "2e6030dbe1eee0976b695394f5705eeca6910343fdadfbbc215a4c95a54e98ea"), looks := true }, kinds := [], alts := [], laidByText := true, laidKinds := [.data, .data, .data, .data, .sentinel, .sentinel, .pinned], laidTests := true, laidLooks := .later }
def CardMovesCardSaid : Prop := Claim7.holds Tryz.pinned (.plain (OpenSpec.ofChange cardMovesSpec)) cardMovesCard

/-- THE TIED CARD OF 'udometerlaw02.CardSheets'. -/
def cardSheetsCard : Claim7 := { stood := { row := cardSheetsRow, standIns := [], harness := (true, "2e6030dbe1eee0976b695394f5705eeca6910343fdadfbbc215a4c95a54e98ea"), looks := true }, kinds := [], alts := [], laidByText := true, laidKinds := [.data, .data, .data, .data, .sentinel, .sentinel, .pinned], laidTests := true, laidLooks := .later }
def CardSheetsCardSaid : Prop := Claim7.holds Tryz.pinned (.plain (OpenSpec.ofChange cardSheetsSpec)) cardSheetsCard

/-- THE TIED CARD OF 'udometerlaw02.CardSaid'. -/
def cardSaidCard : Claim7 := { stood := { row := cardSaidRow, standIns := [], harness := (true, "2e6030dbe1eee0976b695394f5705eeca6910343fdadfbbc215a4c95a54e98ea"), looks := true }, kinds := [], alts := [], laidByText := true, laidKinds := [.data, .data, .data, .data, .sentinel, .sentinel, .pinned], laidTests := true, laidLooks := .later }
def CardSaidCardSaid : Prop := Claim7.holds Tryz.pinned (.plain (OpenSpec.ofChange cardSaidSpec)) cardSaidCard

/-- THE TIED CARD OF 'udometerlaw02.CardBack'. -/
def cardBackCard : Claim7 := { stood := { row := cardBackRow, standIns := [], harness := (true, "2e6030dbe1eee0976b695394f5705eeca6910343fdadfbbc215a4c95a54e98ea"), looks := true }, kinds := [], alts := [], laidByText := true, laidKinds := [.data, .data, .data, .data, .sentinel, .sentinel, .pinned], laidTests := true, laidLooks := .later }
def CardBackCardSaid : Prop := Claim7.holds Tryz.pinned (.plain (OpenSpec.ofChange cardBackSpec)) cardBackCard

/-- THE TIED CARD OF 'udometerlaw02.CardOfOne'. -/
def cardOfOneCard : Claim7 := { stood := { row := cardOfOneRow, standIns := [], harness := (true, "2e6030dbe1eee0976b695394f5705eeca6910343fdadfbbc215a4c95a54e98ea"), looks := true }, kinds := [], alts := [], laidByText := true, laidKinds := [.data, .data, .data, .data, .sentinel, .sentinel, .pinned], laidTests := true, laidLooks := .later }
def CardOfOneCardSaid : Prop := Claim7.holds Tryz.pinned (.plain (OpenSpec.ofChange cardOfOneSpec)) cardOfOneCard

/-- THE TIED CARD OF 'udometerlaw02.CardMoved'. -/
def cardMovedCard : Claim7 := { stood := { row := cardMovedRow, standIns := [], harness := (true, "2e6030dbe1eee0976b695394f5705eeca6910343fdadfbbc215a4c95a54e98ea"), looks := true }, kinds := [], alts := [], laidByText := true, laidKinds := [.data, .data, .data, .data, .sentinel, .sentinel, .pinned], laidTests := true, laidLooks := .later }
def CardMovedCardSaid : Prop := Claim7.holds Tryz.pinned (.plain (OpenSpec.ofChange cardMovedSpec)) cardMovedCard

/-- THE TIED CARD OF 'udometerlaw02.CardPairs'. -/
def cardPairsCard : Claim7 := { stood := { row := cardPairsRow, standIns := [], harness := (true, "2e6030dbe1eee0976b695394f5705eeca6910343fdadfbbc215a4c95a54e98ea"), looks := true }, kinds := [], alts := [], laidByText := true, laidKinds := [.data, .data, .data, .data, .sentinel, .sentinel, .pinned], laidTests := true, laidLooks := .later }
def CardPairsCardSaid : Prop := Claim7.holds Tryz.pinned (.plain (OpenSpec.ofChange cardPairsSpec)) cardPairsCard

/-- THE TIED CARD OF 'udometerlaw02.CardFollows'. -/
def cardFollowsCard : Claim7 := { stood := { row := cardFollowsRow, standIns := [], harness := (true, "2e6030dbe1eee0976b695394f5705eeca6910343fdadfbbc215a4c95a54e98ea"), looks := true }, kinds := [], alts := [], laidByText := true, laidKinds := [.data, .data, .data, .data, .sentinel, .sentinel, .pinned], laidTests := true, laidLooks := .later }
def CardFollowsCardSaid : Prop := Claim7.holds Tryz.pinned (.plain (OpenSpec.ofChange cardFollowsSpec)) cardFollowsCard

/-- THE TIED CARD OF 'udometerlaw02.CardChecks'. -/
def cardChecksCard : Claim7 := { stood := { row := cardChecksRow, standIns := [], harness := (true, "2e6030dbe1eee0976b695394f5705eeca6910343fdadfbbc215a4c95a54e98ea"), looks := true }, kinds := [], alts := [], laidByText := true, laidKinds := [.data, .data, .data, .data, .sentinel, .sentinel, .pinned], laidTests := true, laidLooks := .later }
def CardChecksCardSaid : Prop := Claim7.holds Tryz.pinned (.plain (OpenSpec.ofChange cardChecksSpec)) cardChecksCard

/-- THE TIED CARD OF 'udometerlaw02.CardLists'. -/
def cardListsCard : Claim7 := { stood := { row := cardListsRow, standIns := [], harness := (true, "2e6030dbe1eee0976b695394f5705eeca6910343fdadfbbc215a4c95a54e98ea"), looks := true }, kinds := [], alts := [], laidByText := true, laidKinds := [.data, .data, .data, .data, .sentinel, .sentinel, .pinned], laidTests := true, laidLooks := .later }
def CardListsCardSaid : Prop := Claim7.holds Tryz.pinned (.plain (OpenSpec.ofChange cardListsSpec)) cardListsCard

/-- THE TIED CARD OF 'udometerlaw02.CardListed'. -/
def cardListedCard : Claim7 := { stood := { row := cardListedRow, standIns := [], harness := (true, "2e6030dbe1eee0976b695394f5705eeca6910343fdadfbbc215a4c95a54e98ea"), looks := true }, kinds := [], alts := [], laidByText := true, laidKinds := [.data, .data, .data, .data, .sentinel, .sentinel, .pinned], laidTests := true, laidLooks := .later }
def CardListedCardSaid : Prop := Claim7.holds Tryz.pinned (.plain (OpenSpec.ofChange cardListedSpec)) cardListedCard

/-- THE TIED CARD OF 'udometerlaw02.CardRuns'. -/
def cardRunsCard : Claim7 := { stood := { row := cardRunsRow, standIns := [], harness := (true, "2e6030dbe1eee0976b695394f5705eeca6910343fdadfbbc215a4c95a54e98ea"), looks := true }, kinds := [], alts := [], laidByText := true, laidKinds := [.data, .data, .data, .data, .sentinel, .sentinel, .pinned], laidTests := true, laidLooks := .later }
def CardRunsCardSaid : Prop := Claim7.holds Tryz.pinned (.plain (OpenSpec.ofChange cardRunsSpec)) cardRunsCard

/-- THE TIED CARD OF 'udometerlaw02.CardRunning'. -/
def cardRunningCard : Claim7 := { stood := { row := cardRunningRow, standIns := [], harness := (true, "2e6030dbe1eee0976b695394f5705eeca6910343fdadfbbc215a4c95a54e98ea"), looks := true }, kinds := [], alts := [], laidByText := true, laidKinds := [.data, .data, .data, .data, .sentinel, .sentinel, .pinned], laidTests := true, laidLooks := .later }
def CardRunningCardSaid : Prop := Claim7.holds Tryz.pinned (.plain (OpenSpec.ofChange cardRunningSpec)) cardRunningCard

/-- THE SECOND FORM's CARD OF 'udometerlaw02.CardReads'. -/
def cardReadsUptoCard : Claim7 := { stood := { row := cardReadsUptoRow, standIns := [], harness := (true, "2e6030dbe1eee0976b695394f5705eeca6910343fdadfbbc215a4c95a54e98ea"), looks := true }, kinds := [], alts := [], laidByText := true, laidKinds := [.data, .data, .data, .data, .sentinel, .sentinel, .pinned], laidTests := true, laidLooks := .later }
def CardReadsUptoCardSaid : Prop := Claim7.holds Tryz.pinned (.plain (OpenSpec.upto cardReadsSpec)) cardReadsUptoCard

/-- THE SECOND FORM's CARD OF 'udometerlaw02.CardWrites'. -/
def cardWritesUptoCard : Claim7 := { stood := { row := cardWritesUptoRow, standIns := [], harness := (true, "2e6030dbe1eee0976b695394f5705eeca6910343fdadfbbc215a4c95a54e98ea"), looks := true }, kinds := [], alts := [], laidByText := true, laidKinds := [.data, .data, .data, .data, .sentinel, .sentinel, .pinned], laidTests := true, laidLooks := .later }
def CardWritesUptoCardSaid : Prop := Claim7.holds Tryz.pinned (.plain (OpenSpec.upto cardWritesSpec)) cardWritesUptoCard

/-- THE SECOND FORM's CARD OF 'udometerlaw02.CardAnyhow'. -/
def cardAnyhowUptoCard : Claim7 := { stood := { row := cardAnyhowUptoRow, standIns := [], harness := (true, "2e6030dbe1eee0976b695394f5705eeca6910343fdadfbbc215a4c95a54e98ea"), looks := true }, kinds := [], alts := [], laidByText := true, laidKinds := [.data, .data, .data, .data, .sentinel, .sentinel, .pinned], laidTests := true, laidLooks := .later }
def CardAnyhowUptoCardSaid : Prop := Claim7.holds Tryz.pinned (.plain (OpenSpec.upto cardAnyhowSpec)) cardAnyhowUptoCard

/-- THE SECOND FORM's CARD OF 'udometerlaw02.CardDates'. -/
def cardDatesUptoCard : Claim7 := { stood := { row := cardDatesUptoRow, standIns := [], harness := (true, "2e6030dbe1eee0976b695394f5705eeca6910343fdadfbbc215a4c95a54e98ea"), looks := true }, kinds := [], alts := [], laidByText := true, laidKinds := [.data, .data, .data, .data, .sentinel, .sentinel, .pinned], laidTests := true, laidLooks := .later }
def CardDatesUptoCardSaid : Prop := Claim7.holds Tryz.pinned (.plain (OpenSpec.upto cardDatesSpec)) cardDatesUptoCard

/-- THE SECOND FORM's CARD OF 'udometerlaw02.CardAmounts'. -/
def cardAmountsUptoCard : Claim7 := { stood := { row := cardAmountsUptoRow, standIns := [], harness := (true, "2e6030dbe1eee0976b695394f5705eeca6910343fdadfbbc215a4c95a54e98ea"), looks := true }, kinds := [], alts := [], laidByText := true, laidKinds := [.data, .data, .data, .data, .sentinel, .sentinel, .pinned], laidTests := true, laidLooks := .later }
def CardAmountsUptoCardSaid : Prop := Claim7.holds Tryz.pinned (.plain (OpenSpec.upto cardAmountsSpec)) cardAmountsUptoCard

/-- THE SECOND FORM's CARD OF 'udometerlaw02.CardSheetwise'. -/
def cardSheetwiseUptoCard : Claim7 := { stood := { row := cardSheetwiseUptoRow, standIns := [], harness := (true, "2e6030dbe1eee0976b695394f5705eeca6910343fdadfbbc215a4c95a54e98ea"), looks := true }, kinds := [], alts := [], laidByText := true, laidKinds := [.data, .data, .data, .data, .sentinel, .sentinel, .pinned], laidTests := true, laidLooks := .later }
def CardSheetwiseUptoCardSaid : Prop := Claim7.holds Tryz.pinned (.plain (OpenSpec.upto cardSheetwiseSpec)) cardSheetwiseUptoCard

/-- THE SECOND FORM's CARD OF 'udometerlaw02.CardMoves'. -/
def cardMovesUptoCard : Claim7 := { stood := { row := cardMovesUptoRow, standIns := [], harness := (true, "2e6030dbe1eee0976b695394f5705eeca6910343fdadfbbc215a4c95a54e98ea"), looks := true }, kinds := [], alts := [], laidByText := true, laidKinds := [.data, .data, .data, .data, .sentinel, .sentinel, .pinned], laidTests := true, laidLooks := .later }
def CardMovesUptoCardSaid : Prop := Claim7.holds Tryz.pinned (.plain (OpenSpec.upto cardMovesSpec)) cardMovesUptoCard

/-- THE SECOND FORM's CARD OF 'udometerlaw02.CardSheets'. -/
def cardSheetsUptoCard : Claim7 := { stood := { row := cardSheetsUptoRow, standIns := [], harness := (true, "2e6030dbe1eee0976b695394f5705eeca6910343fdadfbbc215a4c95a54e98ea"), looks := true }, kinds := [], alts := [], laidByText := true, laidKinds := [.data, .data, .data, .data, .sentinel, .sentinel, .pinned], laidTests := true, laidLooks := .later }
def CardSheetsUptoCardSaid : Prop := Claim7.holds Tryz.pinned (.plain (OpenSpec.upto cardSheetsSpec)) cardSheetsUptoCard

/-- THE SECOND FORM's CARD OF 'udometerlaw02.CardSaid'. -/
def cardSaidUptoCard : Claim7 := { stood := { row := cardSaidUptoRow, standIns := [], harness := (true, "2e6030dbe1eee0976b695394f5705eeca6910343fdadfbbc215a4c95a54e98ea"), looks := true }, kinds := [], alts := [], laidByText := true, laidKinds := [.data, .data, .data, .data, .sentinel, .sentinel, .pinned], laidTests := true, laidLooks := .later }
def CardSaidUptoCardSaid : Prop := Claim7.holds Tryz.pinned (.plain (OpenSpec.upto cardSaidSpec)) cardSaidUptoCard

/-- THE SECOND FORM's CARD OF 'udometerlaw02.CardBack'. -/
def cardBackUptoCard : Claim7 := { stood := { row := cardBackUptoRow, standIns := [], harness := (true, "2e6030dbe1eee0976b695394f5705eeca6910343fdadfbbc215a4c95a54e98ea"), looks := true }, kinds := [], alts := [], laidByText := true, laidKinds := [.data, .data, .data, .data, .sentinel, .sentinel, .pinned], laidTests := true, laidLooks := .later }
def CardBackUptoCardSaid : Prop := Claim7.holds Tryz.pinned (.plain (OpenSpec.upto cardBackSpec)) cardBackUptoCard

/-- THE SECOND FORM's CARD OF 'udometerlaw02.CardOfOne'. -/
def cardOfOneUptoCard : Claim7 := { stood := { row := cardOfOneUptoRow, standIns := [], harness := (true, "2e6030dbe1eee0976b695394f5705eeca6910343fdadfbbc215a4c95a54e98ea"), looks := true }, kinds := [], alts := [], laidByText := true, laidKinds := [.data, .data, .data, .data, .sentinel, .sentinel, .pinned], laidTests := true, laidLooks := .later }
def CardOfOneUptoCardSaid : Prop := Claim7.holds Tryz.pinned (.plain (OpenSpec.upto cardOfOneSpec)) cardOfOneUptoCard

/-- THE SECOND FORM's CARD OF 'udometerlaw02.CardMoved'. -/
def cardMovedUptoCard : Claim7 := { stood := { row := cardMovedUptoRow, standIns := [], harness := (true, "2e6030dbe1eee0976b695394f5705eeca6910343fdadfbbc215a4c95a54e98ea"), looks := true }, kinds := [], alts := [], laidByText := true, laidKinds := [.data, .data, .data, .data, .sentinel, .sentinel, .pinned], laidTests := true, laidLooks := .later }
def CardMovedUptoCardSaid : Prop := Claim7.holds Tryz.pinned (.plain (OpenSpec.upto cardMovedSpec)) cardMovedUptoCard

/-- THE SECOND FORM's CARD OF 'udometerlaw02.CardPairs'. -/
def cardPairsUptoCard : Claim7 := { stood := { row := cardPairsUptoRow, standIns := [], harness := (true, "2e6030dbe1eee0976b695394f5705eeca6910343fdadfbbc215a4c95a54e98ea"), looks := true }, kinds := [], alts := [], laidByText := true, laidKinds := [.data, .data, .data, .data, .sentinel, .sentinel, .pinned], laidTests := true, laidLooks := .later }
def CardPairsUptoCardSaid : Prop := Claim7.holds Tryz.pinned (.plain (OpenSpec.upto cardPairsSpec)) cardPairsUptoCard

/-- THE SECOND FORM's CARD OF 'udometerlaw02.CardFollows'. -/
def cardFollowsUptoCard : Claim7 := { stood := { row := cardFollowsUptoRow, standIns := [], harness := (true, "2e6030dbe1eee0976b695394f5705eeca6910343fdadfbbc215a4c95a54e98ea"), looks := true }, kinds := [], alts := [], laidByText := true, laidKinds := [.data, .data, .data, .data, .sentinel, .sentinel, .pinned], laidTests := true, laidLooks := .later }
def CardFollowsUptoCardSaid : Prop := Claim7.holds Tryz.pinned (.plain (OpenSpec.upto cardFollowsSpec)) cardFollowsUptoCard

/-- THE SECOND FORM's CARD OF 'udometerlaw02.CardChecks'. -/
def cardChecksUptoCard : Claim7 := { stood := { row := cardChecksUptoRow, standIns := [], harness := (true, "2e6030dbe1eee0976b695394f5705eeca6910343fdadfbbc215a4c95a54e98ea"), looks := true }, kinds := [], alts := [], laidByText := true, laidKinds := [.data, .data, .data, .data, .sentinel, .sentinel, .pinned], laidTests := true, laidLooks := .later }
def CardChecksUptoCardSaid : Prop := Claim7.holds Tryz.pinned (.plain (OpenSpec.upto cardChecksSpec)) cardChecksUptoCard

/-- THE SECOND FORM's CARD OF 'udometerlaw02.CardLists'. -/
def cardListsUptoCard : Claim7 := { stood := { row := cardListsUptoRow, standIns := [], harness := (true, "2e6030dbe1eee0976b695394f5705eeca6910343fdadfbbc215a4c95a54e98ea"), looks := true }, kinds := [], alts := [], laidByText := true, laidKinds := [.data, .data, .data, .data, .sentinel, .sentinel, .pinned], laidTests := true, laidLooks := .later }
def CardListsUptoCardSaid : Prop := Claim7.holds Tryz.pinned (.plain (OpenSpec.upto cardListsSpec)) cardListsUptoCard

/-- THE SECOND FORM's CARD OF 'udometerlaw02.CardListed'. -/
def cardListedUptoCard : Claim7 := { stood := { row := cardListedUptoRow, standIns := [], harness := (true, "2e6030dbe1eee0976b695394f5705eeca6910343fdadfbbc215a4c95a54e98ea"), looks := true }, kinds := [], alts := [], laidByText := true, laidKinds := [.data, .data, .data, .data, .sentinel, .sentinel, .pinned], laidTests := true, laidLooks := .later }
def CardListedUptoCardSaid : Prop := Claim7.holds Tryz.pinned (.plain (OpenSpec.upto cardListedSpec)) cardListedUptoCard

/-- THE SECOND FORM's CARD OF 'udometerlaw02.CardRuns'. -/
def cardRunsUptoCard : Claim7 := { stood := { row := cardRunsUptoRow, standIns := [], harness := (true, "2e6030dbe1eee0976b695394f5705eeca6910343fdadfbbc215a4c95a54e98ea"), looks := true }, kinds := [], alts := [], laidByText := true, laidKinds := [.data, .data, .data, .data, .sentinel, .sentinel, .pinned], laidTests := true, laidLooks := .later }
def CardRunsUptoCardSaid : Prop := Claim7.holds Tryz.pinned (.plain (OpenSpec.upto cardRunsSpec)) cardRunsUptoCard

/-- THE SECOND FORM's CARD OF 'udometerlaw02.CardRunning'. -/
def cardRunningUptoCard : Claim7 := { stood := { row := cardRunningUptoRow, standIns := [], harness := (true, "2e6030dbe1eee0976b695394f5705eeca6910343fdadfbbc215a4c95a54e98ea"), looks := true }, kinds := [], alts := [], laidByText := true, laidKinds := [.data, .data, .data, .data, .sentinel, .sentinel, .pinned], laidTests := true, laidLooks := .later }
def CardRunningUptoCardSaid : Prop := Claim7.holds Tryz.pinned (.plain (OpenSpec.upto cardRunningSpec)) cardRunningUptoCard
end Rows
end Go.Proofs.YthifeoebefbalaaGreatDoor
