/-
  NARROWER THAN 'FOR EVERY INPUT', by the rows' own cells (each row's printed sentence says how): AnswersMay: laid · AnswersSame: laid · AnswersReads: laid · AnswersRound: laid · AnswersErrors: laid · AnswersSizes: laid.
  DERIVED. THE GIVEN ROWS OF THIS SEAT. 6 by the template 'for every input the law returns true; each argument reads behind the call as it read before'; 0 by the template 'total and deterministic' (their statements: YtdbacbhopkdhgaaDoorTotals.lean).
  GIVEN WITH THE SEED: the statements are not yours to turn. If you find one false, say at which input.
  Laid BY PROGRAM, IN A SANDBOX (cutbox-rows.mjs): the forced cells as the released guide's own fill.sh prints them over the translation 6cd34dbeb38a8c2f… (all of the seat's roots in one cut). By AI agents, Wed Nov 11 2026. No macro, syntax, notation, axiom, sorry.
-/
import Derived.Test.YtdbacbhopkdhgaaDoorChecked
import GoSem.Claim
import GoSem.ClaimJoined
import GoSem.ClaimMapViews
import Derived.JoinedTies
import Derived.KernelRfl
namespace Go.Proofs.YtdbacbhopkdhgaaDoor
/- THE CELL 'sum', in the pinned program and in every row, IS THE sha256 OF THE DUMP (.gsa) THAT YtdbacbhopkdhgaaDoorProg.lean LOADS. Nothing in Lean hashes anything: it is a label: what it is worth is what the hold of that sum in a sandbox is worth. -/
noncomputable def Tryd.pinned : Pinned := { name := "ytdbacbhopkdhgaadoor", sum := "6cd34dbeb38a8c2ff2fca0aa1bed575fe29b93e0a98b65d95f228b1418aa5f13", checked := Tryd.checked }
namespace Rows
def none {H : Type} : Left H := { results := [], args := [] }

/- WHAT THE LISTED PACKAGE-LEVEL VARIABLES READ AS WHEN THE CALL BEGINS. Each datum BY PROGRAM (the guide's laid-datum.mjs) off the statement by which the dump's own 'gosem.cut.vars' lays the variable. In a bare row this is a premise. The card (YtdbacbhopkdhgaaDoorCards.lean) ties it to the program's text. -/
def laid_truchman_codes_table {H : Type} : DataW H := .agg [.agg [.lit (.int .i64 0), .lit (.int .u32 0), .lit (.int .i64 0), .lit (.string [111, 107])], .agg [.lit (.int .i64 8), .lit (.int .u32 70), .lit (.int .i64 1), .lit (.string [115, 116, 97, 108, 101])], .agg [.lit (.int .i64 9), .lit (.int .u32 2), .lit (.int .i64 2), .lit (.string [110, 111, 32, 115, 117, 99, 104, 32, 110, 97, 109, 101])], .agg [.lit (.int .i64 10), .lit (.int .u32 17), .lit (.int .i64 3), .lit (.string [110, 97, 109, 101, 32, 101, 120, 105, 115, 116, 115])], .agg [.lit (.int .i64 11), .lit (.int .u32 20), .lit (.int .i64 4), .lit (.string [110, 111, 116, 32, 97, 32, 100, 105, 114, 101, 99, 116, 111, 114, 121])], .agg [.lit (.int .i64 12), .lit (.int .u32 21), .lit (.int .i64 5), .lit (.string [105, 115, 32, 97, 32, 100, 105, 114, 101, 99, 116, 111, 114, 121])], .agg [.lit (.int .i64 13), .lit (.int .u32 66), .lit (.int .i64 6), .lit (.string [110, 111, 116, 32, 101, 109, 112, 116, 121])], .agg [.lit (.int .i64 14), .lit (.int .u32 28), .lit (.int .i64 7), .lit (.string [110, 111, 32, 115, 112, 97, 99, 101])], .agg [.lit (.int .i64 15), .lit (.int .u32 27), .lit (.int .i64 8), .lit (.string [116, 111, 111, 32, 98, 105, 103])], .agg [.lit (.int .i64 16), .lit (.int .u32 63), .lit (.int .i64 9), .lit (.string [98, 97, 100, 32, 110, 97, 109, 101])], .agg [.lit (.int .i64 20), .lit (.int .u32 10003), .lit (.int .i64 10), .lit (.string [98, 97, 100, 32, 99, 111, 111, 107, 105, 101])], .agg [.lit (.int .i64 17), .lit (.int .u32 10101), .lit (.int .i64 11), .lit (.string [98, 97, 100, 32, 102, 105, 100])], .agg [.lit (.int .i64 18), .lit (.int .u32 10102), .lit (.int .i64 12), .lit (.string [102, 105, 100, 32, 105, 110, 32, 117, 115, 101])], .agg [.lit (.int .i64 19), .lit (.int .u32 10103), .lit (.int .i64 13), .lit (.string [98, 97, 100, 32, 109, 111, 100, 101])], .agg [.lit (.int .i64 22), .lit (.int .u32 10104), .lit (.int .i64 14), .lit (.string [102, 108, 117, 115, 104, 101, 100])], .agg [.lit (.int .i64 21), .lit (.int .u32 5), .lit (.int .i64 15), .lit (.string [105, 47, 111, 32, 101, 114, 114, 111, 114])], .agg [.lit (.int .i64 7), .lit (.int .u32 10105), .lit (.int .i64 16), .lit (.string [116, 97, 103, 32, 105, 110, 32, 117, 115, 101])], .agg [.lit (.int .i64 5), .lit (.int .u32 10106), .lit (.int .i64 17), .lit (.string [116, 111, 111, 32, 109, 97, 110, 121, 32, 114, 101, 113, 117, 101, 115, 116, 115])], .agg [.lit (.int .i64 2), .lit (.int .u32 10107), .lit (.int .i64 18), .lit (.string [98, 97, 100, 32, 109, 101, 115, 115, 97, 103, 101])]]

/-- 'truchmanlaw15.AnswersMay': WHATEVER THE INPUT: true; the input reads as it did. -/
def answersMaySpec : ChangeSpec := { name := "answersMay", fn := fun _ => fun
  | [d1, d2, d3, d4, d5] => { results := [.lit (.bool true)], args := [d1, d2, d3, d4, d5] }
  | _ => none }
def answersMayRow : OpenClaim := { program := "ytdbacbhopkdhgaadoor", sum := "6cd34dbeb38a8c2ff2fca0aa1bed575fe29b93e0a98b65d95f228b1418aa5f13", func := "truchman/truchmanlaw15.AnswersMay", spec := "answersMay", unfollowed := true, recurses := true, named := ["truchman/codes.table"], apart := false, laid := [("truchman/codes.table", laid_truchman_codes_table)] }
def AnswersMaySaid : Prop := answersMayRow.holds Tryd.pinned (OpenSpec.ofChange answersMaySpec)

/-- ITS FALSE NEIGHBOUR: 'it returns false'. Refute it at one input. -/
def answersMayWrong : ChangeSpec := { name := "answersMay", fn := fun _ => fun
  | [d1, d2, d3, d4, d5] => { results := [.lit (.bool false)], args := [d1, d2, d3, d4, d5] }
  | _ => none }
def AnswersMayWrongFalsely : Prop := answersMayRow.holds Tryd.pinned (OpenSpec.ofChange answersMayWrong)

/-- 'truchmanlaw15.AnswersSame': WHATEVER THE INPUT: true; the input reads as it did. -/
def answersSameSpec : ChangeSpec := { name := "answersSame", fn := fun _ => fun
  | [d1, d2, d3, d4, d5] => { results := [.lit (.bool true)], args := [d1, d2, d3, d4, d5] }
  | _ => none }
def answersSameRow : OpenClaim := { program := "ytdbacbhopkdhgaadoor", sum := "6cd34dbeb38a8c2ff2fca0aa1bed575fe29b93e0a98b65d95f228b1418aa5f13", func := "truchman/truchmanlaw15.AnswersSame", spec := "answersSame", unfollowed := true, recurses := true, named := ["truchman/codes.table"], apart := false, laid := [("truchman/codes.table", laid_truchman_codes_table)] }
def AnswersSameSaid : Prop := answersSameRow.holds Tryd.pinned (OpenSpec.ofChange answersSameSpec)

/-- ITS FALSE NEIGHBOUR: 'it returns false'. Refute it at one input. -/
def answersSameWrong : ChangeSpec := { name := "answersSame", fn := fun _ => fun
  | [d1, d2, d3, d4, d5] => { results := [.lit (.bool false)], args := [d1, d2, d3, d4, d5] }
  | _ => none }
def AnswersSameWrongFalsely : Prop := answersSameRow.holds Tryd.pinned (OpenSpec.ofChange answersSameWrong)

/-- 'truchmanlaw15.AnswersReads': WHATEVER THE INPUT: true; the input reads as it did. -/
def answersReadsSpec : ChangeSpec := { name := "answersReads", fn := fun _ => fun
  | [d1, d2, d3, d4, d5, d6] => { results := [.lit (.bool true)], args := [d1, d2, d3, d4, d5, d6] }
  | _ => none }
def answersReadsRow : OpenClaim := { program := "ytdbacbhopkdhgaadoor", sum := "6cd34dbeb38a8c2ff2fca0aa1bed575fe29b93e0a98b65d95f228b1418aa5f13", func := "truchman/truchmanlaw15.AnswersReads", spec := "answersReads", unfollowed := true, recurses := true, named := ["truchman/codes.table"], apart := false, laid := [("truchman/codes.table", laid_truchman_codes_table)] }
def AnswersReadsSaid : Prop := answersReadsRow.holds Tryd.pinned (OpenSpec.ofChange answersReadsSpec)

/-- ITS FALSE NEIGHBOUR: 'it returns false'. Refute it at one input. -/
def answersReadsWrong : ChangeSpec := { name := "answersReads", fn := fun _ => fun
  | [d1, d2, d3, d4, d5, d6] => { results := [.lit (.bool false)], args := [d1, d2, d3, d4, d5, d6] }
  | _ => none }
def AnswersReadsWrongFalsely : Prop := answersReadsRow.holds Tryd.pinned (OpenSpec.ofChange answersReadsWrong)

/-- 'truchmanlaw15.AnswersRound': WHATEVER THE INPUT: true; the input reads as it did. -/
def answersRoundSpec : ChangeSpec := { name := "answersRound", fn := fun _ => fun
  | [d1, d2] => { results := [.lit (.bool true)], args := [d1, d2] }
  | _ => none }
def answersRoundRow : OpenClaim := { program := "ytdbacbhopkdhgaadoor", sum := "6cd34dbeb38a8c2ff2fca0aa1bed575fe29b93e0a98b65d95f228b1418aa5f13", func := "truchman/truchmanlaw15.AnswersRound", spec := "answersRound", unfollowed := true, recurses := true, named := ["truchman/codes.table"], apart := false, laid := [("truchman/codes.table", laid_truchman_codes_table)] }
def AnswersRoundSaid : Prop := answersRoundRow.holds Tryd.pinned (OpenSpec.ofChange answersRoundSpec)

/-- ITS FALSE NEIGHBOUR: 'it returns false'. Refute it at one input. -/
def answersRoundWrong : ChangeSpec := { name := "answersRound", fn := fun _ => fun
  | [d1, d2] => { results := [.lit (.bool false)], args := [d1, d2] }
  | _ => none }
def AnswersRoundWrongFalsely : Prop := answersRoundRow.holds Tryd.pinned (OpenSpec.ofChange answersRoundWrong)

/-- 'truchmanlaw15.AnswersErrors': WHATEVER THE INPUT: true; the input reads as it did. -/
def answersErrorsSpec : ChangeSpec := { name := "answersErrors", fn := fun _ => fun
  | [d1, d2, d3] => { results := [.lit (.bool true)], args := [d1, d2, d3] }
  | _ => none }
def answersErrorsRow : OpenClaim := { program := "ytdbacbhopkdhgaadoor", sum := "6cd34dbeb38a8c2ff2fca0aa1bed575fe29b93e0a98b65d95f228b1418aa5f13", func := "truchman/truchmanlaw15.AnswersErrors", spec := "answersErrors", unfollowed := true, recurses := true, named := ["truchman/codes.table"], apart := false, laid := [("truchman/codes.table", laid_truchman_codes_table)] }
def AnswersErrorsSaid : Prop := answersErrorsRow.holds Tryd.pinned (OpenSpec.ofChange answersErrorsSpec)

/-- ITS FALSE NEIGHBOUR: 'it returns false'. Refute it at one input. -/
def answersErrorsWrong : ChangeSpec := { name := "answersErrors", fn := fun _ => fun
  | [d1, d2, d3] => { results := [.lit (.bool false)], args := [d1, d2, d3] }
  | _ => none }
def AnswersErrorsWrongFalsely : Prop := answersErrorsRow.holds Tryd.pinned (OpenSpec.ofChange answersErrorsWrong)

/-- 'truchmanlaw15.AnswersSizes': WHATEVER THE INPUT: true; the input reads as it did. -/
def answersSizesSpec : ChangeSpec := { name := "answersSizes", fn := fun _ => fun
  | [d1, d2] => { results := [.lit (.bool true)], args := [d1, d2] }
  | _ => none }
def answersSizesRow : OpenClaim := { program := "ytdbacbhopkdhgaadoor", sum := "6cd34dbeb38a8c2ff2fca0aa1bed575fe29b93e0a98b65d95f228b1418aa5f13", func := "truchman/truchmanlaw15.AnswersSizes", spec := "answersSizes", unfollowed := true, recurses := true, named := ["truchman/codes.table"], apart := false, laid := [("truchman/codes.table", laid_truchman_codes_table)] }
def AnswersSizesSaid : Prop := answersSizesRow.holds Tryd.pinned (OpenSpec.ofChange answersSizesSpec)

/-- ITS FALSE NEIGHBOUR: 'it returns false'. Refute it at one input. -/
def answersSizesWrong : ChangeSpec := { name := "answersSizes", fn := fun _ => fun
  | [d1, d2] => { results := [.lit (.bool false)], args := [d1, d2] }
  | _ => none }
def AnswersSizesWrongFalsely : Prop := answersSizesRow.holds Tryd.pinned (OpenSpec.ofChange answersSizesWrong)

/- THE SECOND FORM. 'bulk': how many values and letters a reading holds, each counted each time it is reached (what is shared counts as often as it is met; a slice's spare places count too). A statement '..UptoSaid' is the law's where the arguments, and the package variables that the reading takes, are together of bulk at most 1048576: NARROWER than '..Said'. Prove '..Said' where nothing that the law and all that it calls make is longer than what came in: it says more and counts as full. Else prove '..UptoSaid'. A law counts once. -/
mutual
def uptoBulk {H : Type} : DataW H → Nat
  | .lit (.string bytes) => bytes.length + 1
  | .lit _ => 1
  | .nil => 1
  | .ptr d => uptoBulk d + 1
  | .slice elems spare => uptoBulkAll elems + uptoBulkAll spare + 1
  | .agg parts => uptoBulkAll parts + 1
  | .iface _ d => uptoBulk d + 1
  | .map entries => uptoBulkEntries entries + 1
  | .held _ => 1
def uptoBulkAll {H : Type} : List (DataW H) → Nat
  | [] => 0
  | d :: r => uptoBulk d + uptoBulkAll r
def uptoBulkEntries {H : Type} : List (Lit × DataW H) → Nat
  | [] => 0
  | x :: r => uptoBulkEntry x + uptoBulkEntries r
def uptoBulkEntry {H : Type} : Lit × DataW H → Nat
  | (.string bytes, d) => bytes.length + uptoBulk d + 1
  | (_, d) => uptoBulk d + 1
 end
def uptoSmall : (H : Type) → List (DataW H) → Bool := fun _ ds => decide (uptoBulkAll ds ≤ 1048576)
def OpenSpec.upto (s : _root_.Go.ChangeSpec) : _root_.Go.OpenSpec := { _root_.Go.OpenSpec.ofChange s with cond := some uptoSmall }

/-- 'truchmanlaw15.AnswersMay', WHERE WHAT IT READS IS OF BULK AT MOST 1048576: true; the input reads as it did. -/
def answersMayUptoRow : OpenClaim := { program := "ytdbacbhopkdhgaadoor", sum := "6cd34dbeb38a8c2ff2fca0aa1bed575fe29b93e0a98b65d95f228b1418aa5f13", func := "truchman/truchmanlaw15.AnswersMay", spec := "answersMay", unfollowed := true, recurses := true, named := ["truchman/codes.table"], apart := false, laid := [("truchman/codes.table", laid_truchman_codes_table)], narrowed := true }
def AnswersMayUptoSaid : Prop := answersMayUptoRow.holds Tryd.pinned (OpenSpec.upto answersMaySpec)

/-- 'truchmanlaw15.AnswersSame', WHERE WHAT IT READS IS OF BULK AT MOST 1048576: true; the input reads as it did. -/
def answersSameUptoRow : OpenClaim := { program := "ytdbacbhopkdhgaadoor", sum := "6cd34dbeb38a8c2ff2fca0aa1bed575fe29b93e0a98b65d95f228b1418aa5f13", func := "truchman/truchmanlaw15.AnswersSame", spec := "answersSame", unfollowed := true, recurses := true, named := ["truchman/codes.table"], apart := false, laid := [("truchman/codes.table", laid_truchman_codes_table)], narrowed := true }
def AnswersSameUptoSaid : Prop := answersSameUptoRow.holds Tryd.pinned (OpenSpec.upto answersSameSpec)

/-- 'truchmanlaw15.AnswersReads', WHERE WHAT IT READS IS OF BULK AT MOST 1048576: true; the input reads as it did. -/
def answersReadsUptoRow : OpenClaim := { program := "ytdbacbhopkdhgaadoor", sum := "6cd34dbeb38a8c2ff2fca0aa1bed575fe29b93e0a98b65d95f228b1418aa5f13", func := "truchman/truchmanlaw15.AnswersReads", spec := "answersReads", unfollowed := true, recurses := true, named := ["truchman/codes.table"], apart := false, laid := [("truchman/codes.table", laid_truchman_codes_table)], narrowed := true }
def AnswersReadsUptoSaid : Prop := answersReadsUptoRow.holds Tryd.pinned (OpenSpec.upto answersReadsSpec)

/-- 'truchmanlaw15.AnswersRound', WHERE WHAT IT READS IS OF BULK AT MOST 1048576: true; the input reads as it did. -/
def answersRoundUptoRow : OpenClaim := { program := "ytdbacbhopkdhgaadoor", sum := "6cd34dbeb38a8c2ff2fca0aa1bed575fe29b93e0a98b65d95f228b1418aa5f13", func := "truchman/truchmanlaw15.AnswersRound", spec := "answersRound", unfollowed := true, recurses := true, named := ["truchman/codes.table"], apart := false, laid := [("truchman/codes.table", laid_truchman_codes_table)], narrowed := true }
def AnswersRoundUptoSaid : Prop := answersRoundUptoRow.holds Tryd.pinned (OpenSpec.upto answersRoundSpec)

/-- 'truchmanlaw15.AnswersErrors', WHERE WHAT IT READS IS OF BULK AT MOST 1048576: true; the input reads as it did. -/
def answersErrorsUptoRow : OpenClaim := { program := "ytdbacbhopkdhgaadoor", sum := "6cd34dbeb38a8c2ff2fca0aa1bed575fe29b93e0a98b65d95f228b1418aa5f13", func := "truchman/truchmanlaw15.AnswersErrors", spec := "answersErrors", unfollowed := true, recurses := true, named := ["truchman/codes.table"], apart := false, laid := [("truchman/codes.table", laid_truchman_codes_table)], narrowed := true }
def AnswersErrorsUptoSaid : Prop := answersErrorsUptoRow.holds Tryd.pinned (OpenSpec.upto answersErrorsSpec)

/-- 'truchmanlaw15.AnswersSizes', WHERE WHAT IT READS IS OF BULK AT MOST 1048576: true; the input reads as it did. -/
def answersSizesUptoRow : OpenClaim := { program := "ytdbacbhopkdhgaadoor", sum := "6cd34dbeb38a8c2ff2fca0aa1bed575fe29b93e0a98b65d95f228b1418aa5f13", func := "truchman/truchmanlaw15.AnswersSizes", spec := "answersSizes", unfollowed := true, recurses := true, named := ["truchman/codes.table"], apart := false, laid := [("truchman/codes.table", laid_truchman_codes_table)], narrowed := true }
def AnswersSizesUptoSaid : Prop := answersSizesUptoRow.holds Tryd.pinned (OpenSpec.upto answersSizesSpec)

end Rows
end Go.Proofs.YtdbacbhopkdhgaaDoor
