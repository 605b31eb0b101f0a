/-
  DERIVED. GIVEN WITH THE SEED: THE CARDS: each row of YtdbacbhopkdhgaaDoorRows.lean that lists a variable, with what it lists TIED to the program's text (the seventh form; the later family's looks); each row that meets fmt, with fmt's text TOLD by the authors' own Lean function (tested against real Go, not proved from fmt's source: count such statements apart). THE CARD IS WHAT COUNTS. Prove the row's statement (the work); the ties are given (YtdbacbhopkdhgaaDoorTie.lean); close each card by the builder's one call (the guide's Derived/Test/ToyasCard.lean, 'card_holds'). Laid BY PROGRAM, IN A SANDBOX (cutbox-door.mjs). By AI agents, Wed Nov 11 2026. No macro, syntax, notation, axiom, sorry.
-/
import Derived.Test.YtdbacbhopkdhgaaDoorRows
import GoSem.ClaimSeven
namespace Go.Proofs.YtdbacbhopkdhgaaDoor
namespace Rows

/-- THE TIED CARD OF 'truchmanlaw15.AnswersMay'. -/
def answersMayCard : Claim7 := { stood := { row := answersMayRow, standIns := [], harness := (true, "a70197d3a0df31fe34cdc57278c994fe891327629a02981fa8832aa6ce3dce8b"), looks := true }, kinds := [], alts := [], laidByText := true, laidKinds := [.data], laidTests := true, laidLooks := .later }
def AnswersMayCardSaid : Prop := Claim7.holds Tryd.pinned (.plain (OpenSpec.ofChange answersMaySpec)) answersMayCard

/-- THE TIED CARD OF 'truchmanlaw15.AnswersSame'. -/
def answersSameCard : Claim7 := { stood := { row := answersSameRow, standIns := [], harness := (true, "a70197d3a0df31fe34cdc57278c994fe891327629a02981fa8832aa6ce3dce8b"), looks := true }, kinds := [], alts := [], laidByText := true, laidKinds := [.data], laidTests := true, laidLooks := .later }
def AnswersSameCardSaid : Prop := Claim7.holds Tryd.pinned (.plain (OpenSpec.ofChange answersSameSpec)) answersSameCard

/-- THE TIED CARD OF 'truchmanlaw15.AnswersReads'. -/
def answersReadsCard : Claim7 := { stood := { row := answersReadsRow, standIns := [], harness := (true, "a70197d3a0df31fe34cdc57278c994fe891327629a02981fa8832aa6ce3dce8b"), looks := true }, kinds := [], alts := [], laidByText := true, laidKinds := [.data], laidTests := true, laidLooks := .later }
def AnswersReadsCardSaid : Prop := Claim7.holds Tryd.pinned (.plain (OpenSpec.ofChange answersReadsSpec)) answersReadsCard

/-- THE TIED CARD OF 'truchmanlaw15.AnswersRound'. -/
def answersRoundCard : Claim7 := { stood := { row := answersRoundRow, standIns := [], harness := (true, "a70197d3a0df31fe34cdc57278c994fe891327629a02981fa8832aa6ce3dce8b"), looks := true }, kinds := [], alts := [], laidByText := true, laidKinds := [.data], laidTests := true, laidLooks := .later }
def AnswersRoundCardSaid : Prop := Claim7.holds Tryd.pinned (.plain (OpenSpec.ofChange answersRoundSpec)) answersRoundCard

/-- THE TIED CARD OF 'truchmanlaw15.AnswersErrors'. -/
def answersErrorsCard : Claim7 := { stood := { row := answersErrorsRow, standIns := [], harness := (true, "a70197d3a0df31fe34cdc57278c994fe891327629a02981fa8832aa6ce3dce8b"), looks := true }, kinds := [], alts := [], laidByText := true, laidKinds := [.data], laidTests := true, laidLooks := .later }
def AnswersErrorsCardSaid : Prop := Claim7.holds Tryd.pinned (.plain (OpenSpec.ofChange answersErrorsSpec)) answersErrorsCard

/-- THE TIED CARD OF 'truchmanlaw15.AnswersSizes'. -/
def answersSizesCard : Claim7 := { stood := { row := answersSizesRow, standIns := [], harness := (true, "a70197d3a0df31fe34cdc57278c994fe891327629a02981fa8832aa6ce3dce8b"), looks := true }, kinds := [], alts := [], laidByText := true, laidKinds := [.data], laidTests := true, laidLooks := .later }
def AnswersSizesCardSaid : Prop := Claim7.holds Tryd.pinned (.plain (OpenSpec.ofChange answersSizesSpec)) answersSizesCard

/-- THE SECOND FORM's CARD OF 'truchmanlaw15.AnswersMay'. -/
def answersMayUptoCard : Claim7 := { stood := { row := answersMayUptoRow, standIns := [], harness := (true, "a70197d3a0df31fe34cdc57278c994fe891327629a02981fa8832aa6ce3dce8b"), looks := true }, kinds := [], alts := [], laidByText := true, laidKinds := [.data], laidTests := true, laidLooks := .later }
def AnswersMayUptoCardSaid : Prop := Claim7.holds Tryd.pinned (.plain (OpenSpec.upto answersMaySpec)) answersMayUptoCard

/-- THE SECOND FORM's CARD OF 'truchmanlaw15.AnswersSame'. -/
def answersSameUptoCard : Claim7 := { stood := { row := answersSameUptoRow, standIns := [], harness := (true, "a70197d3a0df31fe34cdc57278c994fe891327629a02981fa8832aa6ce3dce8b"), looks := true }, kinds := [], alts := [], laidByText := true, laidKinds := [.data], laidTests := true, laidLooks := .later }
def AnswersSameUptoCardSaid : Prop := Claim7.holds Tryd.pinned (.plain (OpenSpec.upto answersSameSpec)) answersSameUptoCard

/-- THE SECOND FORM's CARD OF 'truchmanlaw15.AnswersReads'. -/
def answersReadsUptoCard : Claim7 := { stood := { row := answersReadsUptoRow, standIns := [], harness := (true, "a70197d3a0df31fe34cdc57278c994fe891327629a02981fa8832aa6ce3dce8b"), looks := true }, kinds := [], alts := [], laidByText := true, laidKinds := [.data], laidTests := true, laidLooks := .later }
def AnswersReadsUptoCardSaid : Prop := Claim7.holds Tryd.pinned (.plain (OpenSpec.upto answersReadsSpec)) answersReadsUptoCard

/-- THE SECOND FORM's CARD OF 'truchmanlaw15.AnswersRound'. -/
def answersRoundUptoCard : Claim7 := { stood := { row := answersRoundUptoRow, standIns := [], harness := (true, "a70197d3a0df31fe34cdc57278c994fe891327629a02981fa8832aa6ce3dce8b"), looks := true }, kinds := [], alts := [], laidByText := true, laidKinds := [.data], laidTests := true, laidLooks := .later }
def AnswersRoundUptoCardSaid : Prop := Claim7.holds Tryd.pinned (.plain (OpenSpec.upto answersRoundSpec)) answersRoundUptoCard

/-- THE SECOND FORM's CARD OF 'truchmanlaw15.AnswersErrors'. -/
def answersErrorsUptoCard : Claim7 := { stood := { row := answersErrorsUptoRow, standIns := [], harness := (true, "a70197d3a0df31fe34cdc57278c994fe891327629a02981fa8832aa6ce3dce8b"), looks := true }, kinds := [], alts := [], laidByText := true, laidKinds := [.data], laidTests := true, laidLooks := .later }
def AnswersErrorsUptoCardSaid : Prop := Claim7.holds Tryd.pinned (.plain (OpenSpec.upto answersErrorsSpec)) answersErrorsUptoCard

/-- THE SECOND FORM's CARD OF 'truchmanlaw15.AnswersSizes'. -/
def answersSizesUptoCard : Claim7 := { stood := { row := answersSizesUptoRow, standIns := [], harness := (true, "a70197d3a0df31fe34cdc57278c994fe891327629a02981fa8832aa6ce3dce8b"), looks := true }, kinds := [], alts := [], laidByText := true, laidKinds := [.data], laidTests := true, laidLooks := .later }
def AnswersSizesUptoCardSaid : Prop := Claim7.holds Tryd.pinned (.plain (OpenSpec.upto answersSizesSpec)) answersSizesUptoCard
end Rows
end Go.Proofs.YtdbacbhopkdhgaaDoor
