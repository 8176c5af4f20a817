/-
  DERIVED. GIVEN WITH THE SEED: THE CARDS: each row of YtacjjfoelhckcaaDoorRows.lean that lists a variable, with what it lists TIED to the program's text (the seventh form; the later family's looks); each row that meets fmt, with fmt's text TOLD by the authors' own Lean function (tested against real Go, not proved from fmt's source: count such statements apart). THE CARD IS WHAT COUNTS. Prove the row's statement (the work); the ties are given (YtacjjfoelhckcaaDoorTie.lean); close each card by the builder's one call (the guide's Derived/Test/ToyasCard.lean, 'card_holds'). Laid BY PROGRAM, IN A SANDBOX (cutbox-door.mjs). By AI agents, Wed Nov 11 2026. No macro, syntax, notation, axiom, sorry.
-/
import Derived.Test.YtacjjfoelhckcaaDoorRows
import GoSem.ClaimSeven
namespace Go.Proofs.YtacjjfoelhckcaaDoor
namespace Rows

/-- THE TIED CARD OF 'sorrellaw02.ExprMakes'. -/
def exprMakesCard : Claim7 := { stood := { row := exprMakesRow, standIns := [], harness := (true, "b71edeec65426a1bf1ac7fbf7c1457e44812ea2edb42b5fd9ff717bb287b2cbe"), looks := true }, kinds := [], alts := [], laidByText := true, laidKinds := [.data, .data], laidTests := true, laidLooks := .later }
def ExprMakesCardSaid : Prop := Claim7.holds Tryd.pinned (.plain (OpenSpec.ofChange exprMakesSpec)) exprMakesCard

/-- THE TIED CARD OF 'sorrellaw02.ExprSwaps'. -/
def exprSwapsCard : Claim7 := { stood := { row := exprSwapsRow, standIns := [], harness := (true, "b71edeec65426a1bf1ac7fbf7c1457e44812ea2edb42b5fd9ff717bb287b2cbe"), looks := true }, kinds := [], alts := [], laidByText := true, laidKinds := [.data, .data], laidTests := true, laidLooks := .later }
def ExprSwapsCardSaid : Prop := Claim7.holds Tryd.pinned (.plain (OpenSpec.ofChange exprSwapsSpec)) exprSwapsCard

/-- THE TIED CARD OF 'sorrellaw02.ExprPuts'. -/
def exprPutsCard : Claim7 := { stood := { row := exprPutsRow, standIns := [], harness := (true, "b71edeec65426a1bf1ac7fbf7c1457e44812ea2edb42b5fd9ff717bb287b2cbe"), looks := true }, kinds := [], alts := [], laidByText := true, laidKinds := [.data, .data], laidTests := true, laidLooks := .later }
def ExprPutsCardSaid : Prop := Claim7.holds Tryd.pinned (.plain (OpenSpec.ofChange exprPutsSpec)) exprPutsCard

/-- THE TIED CARD OF 'sorrellaw14.PatternSize'. -/
def patternSizeCard : Claim7 := { stood := { row := patternSizeRow, standIns := [], harness := (true, "b71edeec65426a1bf1ac7fbf7c1457e44812ea2edb42b5fd9ff717bb287b2cbe"), looks := true }, kinds := [], alts := [], laidByText := true, laidKinds := [.data, .data], laidTests := true, laidLooks := .later }
def PatternSizeCardSaid : Prop := Claim7.holds Tryd.pinned (.plain (OpenSpec.ofChange patternSizeSpec)) patternSizeCard

/-- THE TIED CARD OF 'sorrellaw02.ExprOrders'. -/
def exprOrdersCard : Claim7 := { stood := { row := exprOrdersRow, standIns := [], harness := (true, "b71edeec65426a1bf1ac7fbf7c1457e44812ea2edb42b5fd9ff717bb287b2cbe"), looks := true }, kinds := [], alts := [], laidByText := true, laidKinds := [.data, .data], laidTests := true, laidLooks := .later }
def ExprOrdersCardSaid : Prop := Claim7.holds Tryd.pinned (.plain (OpenSpec.ofChange exprOrdersSpec)) exprOrdersCard

/-- THE TIED CARD OF 'sorrellaw08.EvalPlays'. -/
def evalPlaysCard : Claim7 := { stood := { row := evalPlaysRow, standIns := [], harness := (true, "b71edeec65426a1bf1ac7fbf7c1457e44812ea2edb42b5fd9ff717bb287b2cbe"), looks := true }, kinds := [], alts := [], laidByText := true, laidKinds := [.data, .data], laidTests := true, laidLooks := .later }
def EvalPlaysCardSaid : Prop := Claim7.holds Tryd.pinned (.plain (OpenSpec.ofChange evalPlaysSpec)) evalPlaysCard

/-- THE TIED CARD OF 'sorrellaw08.EvalKeeps'. -/
def evalKeepsCard : Claim7 := { stood := { row := evalKeepsRow, standIns := [], harness := (true, "b71edeec65426a1bf1ac7fbf7c1457e44812ea2edb42b5fd9ff717bb287b2cbe"), looks := true }, kinds := [], alts := [], laidByText := true, laidKinds := [.data, .data], laidTests := true, laidLooks := .later }
def EvalKeepsCardSaid : Prop := Claim7.holds Tryd.pinned (.plain (OpenSpec.ofChange evalKeepsSpec)) evalKeepsCard

/-- THE TIED CARD OF 'sorrellaw08.EvalParts'. -/
def evalPartsCard : Claim7 := { stood := { row := evalPartsRow, standIns := [], harness := (true, "b71edeec65426a1bf1ac7fbf7c1457e44812ea2edb42b5fd9ff717bb287b2cbe"), looks := true }, kinds := [], alts := [], laidByText := true, laidKinds := [.data, .data], laidTests := true, laidLooks := .later }
def EvalPartsCardSaid : Prop := Claim7.holds Tryd.pinned (.plain (OpenSpec.ofChange evalPartsSpec)) evalPartsCard

/-- THE TIED CARD OF 'sorrellaw08.EvalPut'. -/
def evalPutCard : Claim7 := { stood := { row := evalPutRow, standIns := [], harness := (true, "b71edeec65426a1bf1ac7fbf7c1457e44812ea2edb42b5fd9ff717bb287b2cbe"), looks := true }, kinds := [], alts := [], laidByText := true, laidKinds := [.data, .data], laidTests := true, laidLooks := .later }
def EvalPutCardSaid : Prop := Claim7.holds Tryd.pinned (.plain (OpenSpec.ofChange evalPutSpec)) evalPutCard

/-- THE TIED CARD OF 'sorrellaw08.EvalTerms'. -/
def evalTermsCard : Claim7 := { stood := { row := evalTermsRow, standIns := [], harness := (true, "b71edeec65426a1bf1ac7fbf7c1457e44812ea2edb42b5fd9ff717bb287b2cbe"), looks := true }, kinds := [], alts := [], laidByText := true, laidKinds := [.data, .data], laidTests := true, laidLooks := .later }
def EvalTermsCardSaid : Prop := Claim7.holds Tryd.pinned (.plain (OpenSpec.ofChange evalTermsSpec)) evalTermsCard

/-- THE TIED CARD OF 'sorrellaw14.PatternMeans'. -/
def patternMeansCard : Claim7 := { stood := { row := patternMeansRow, standIns := [], harness := (true, "b71edeec65426a1bf1ac7fbf7c1457e44812ea2edb42b5fd9ff717bb287b2cbe"), looks := true }, kinds := [], alts := [], laidByText := true, laidKinds := [.data, .data], laidTests := true, laidLooks := .later }
def PatternMeansCardSaid : Prop := Claim7.holds Tryd.pinned (.plain (OpenSpec.ofChange patternMeansSpec)) patternMeansCard

/-- THE TIED CARD OF 'sorrellaw14.PatternPlays'. -/
def patternPlaysCard : Claim7 := { stood := { row := patternPlaysRow, standIns := [], harness := (true, "b71edeec65426a1bf1ac7fbf7c1457e44812ea2edb42b5fd9ff717bb287b2cbe"), looks := true }, kinds := [], alts := [], laidByText := true, laidKinds := [.data, .data], laidTests := true, laidLooks := .later }
def PatternPlaysCardSaid : Prop := Claim7.holds Tryd.pinned (.plain (OpenSpec.ofChange patternPlaysSpec)) patternPlaysCard

/-- THE TIED CARD OF 'sorrellaw14.PatternBack'. -/
def patternBackCard : Claim7 := { stood := { row := patternBackRow, standIns := [], harness := (true, "b71edeec65426a1bf1ac7fbf7c1457e44812ea2edb42b5fd9ff717bb287b2cbe"), looks := true }, kinds := [], alts := [], laidByText := true, laidKinds := [.data, .data], laidTests := true, laidLooks := .later }
def PatternBackCardSaid : Prop := Claim7.holds Tryd.pinned (.plain (OpenSpec.ofChange patternBackSpec)) patternBackCard

/-- THE TIED CARD OF 'sorrellaw14.PatternPlain'. -/
def patternPlainCard : Claim7 := { stood := { row := patternPlainRow, standIns := [], harness := (true, "b71edeec65426a1bf1ac7fbf7c1457e44812ea2edb42b5fd9ff717bb287b2cbe"), looks := true }, kinds := [], alts := [], laidByText := true, laidKinds := [.data, .data], laidTests := true, laidLooks := .later }
def PatternPlainCardSaid : Prop := Claim7.holds Tryd.pinned (.plain (OpenSpec.ofChange patternPlainSpec)) patternPlainCard

/-- THE TIED CARD OF 'sorrellaw14.PatternKeeps'. -/
def patternKeepsCard : Claim7 := { stood := { row := patternKeepsRow, standIns := [], harness := (true, "b71edeec65426a1bf1ac7fbf7c1457e44812ea2edb42b5fd9ff717bb287b2cbe"), looks := true }, kinds := [], alts := [], laidByText := true, laidKinds := [.data, .data], laidTests := true, laidLooks := .later }
def PatternKeepsCardSaid : Prop := Claim7.holds Tryd.pinned (.plain (OpenSpec.ofChange patternKeepsSpec)) patternKeepsCard

/-- THE TIED CARD OF 'sorrellaw02.ExprRebuilds'. -/
def exprRebuildsCard : Claim7 := { stood := { row := exprRebuildsRow, standIns := [], harness := (true, "b71edeec65426a1bf1ac7fbf7c1457e44812ea2edb42b5fd9ff717bb287b2cbe"), looks := true }, kinds := [], alts := [], laidByText := true, laidKinds := [.data, .data], laidTests := true, laidLooks := .later }
def ExprRebuildsCardSaid : Prop := Claim7.holds Tryd.pinned (.plain (OpenSpec.ofChange exprRebuildsSpec)) exprRebuildsCard

/-- THE TIED CARD OF 'sorrellaw02.ExprPlays'. -/
def exprPlaysCard : Claim7 := { stood := { row := exprPlaysRow, standIns := [], harness := (true, "b71edeec65426a1bf1ac7fbf7c1457e44812ea2edb42b5fd9ff717bb287b2cbe"), looks := true }, kinds := [], alts := [], laidByText := true, laidKinds := [.data, .data], laidTests := true, laidLooks := .later }
def ExprPlaysCardSaid : Prop := Claim7.holds Tryd.pinned (.plain (OpenSpec.ofChange exprPlaysSpec)) exprPlaysCard

/-- THE TIED CARD OF 'sorrellaw08.EvalNames'. -/
def evalNamesCard : Claim7 := { stood := { row := evalNamesRow, standIns := [], harness := (true, "b71edeec65426a1bf1ac7fbf7c1457e44812ea2edb42b5fd9ff717bb287b2cbe"), looks := true }, kinds := [], alts := [], laidByText := true, laidKinds := [.data, .data], laidTests := true, laidLooks := .later }
def EvalNamesCardSaid : Prop := Claim7.holds Tryd.pinned (.plain (OpenSpec.ofChange evalNamesSpec)) evalNamesCard

/-- THE TIED CARD OF 'sorrellaw02.ExprKeeps'. -/
def exprKeepsCard : Claim7 := { stood := { row := exprKeepsRow, standIns := [], harness := (true, "b71edeec65426a1bf1ac7fbf7c1457e44812ea2edb42b5fd9ff717bb287b2cbe"), looks := true }, kinds := [], alts := [], laidByText := true, laidKinds := [.data, .data], laidTests := true, laidLooks := .later }
def ExprKeepsCardSaid : Prop := Claim7.holds Tryd.pinned (.plain (OpenSpec.ofChange exprKeepsSpec)) exprKeepsCard

/-- THE SECOND FORM's CARD OF 'sorrellaw02.ExprMakes'. -/
def exprMakesUptoCard : Claim7 := { stood := { row := exprMakesUptoRow, standIns := [], harness := (true, "b71edeec65426a1bf1ac7fbf7c1457e44812ea2edb42b5fd9ff717bb287b2cbe"), looks := true }, kinds := [], alts := [], laidByText := true, laidKinds := [.data, .data], laidTests := true, laidLooks := .later }
def ExprMakesUptoCardSaid : Prop := Claim7.holds Tryd.pinned (.plain (OpenSpec.upto exprMakesSpec)) exprMakesUptoCard

/-- THE SECOND FORM's CARD OF 'sorrellaw02.ExprSwaps'. -/
def exprSwapsUptoCard : Claim7 := { stood := { row := exprSwapsUptoRow, standIns := [], harness := (true, "b71edeec65426a1bf1ac7fbf7c1457e44812ea2edb42b5fd9ff717bb287b2cbe"), looks := true }, kinds := [], alts := [], laidByText := true, laidKinds := [.data, .data], laidTests := true, laidLooks := .later }
def ExprSwapsUptoCardSaid : Prop := Claim7.holds Tryd.pinned (.plain (OpenSpec.upto exprSwapsSpec)) exprSwapsUptoCard

/-- THE SECOND FORM's CARD OF 'sorrellaw02.ExprPuts'. -/
def exprPutsUptoCard : Claim7 := { stood := { row := exprPutsUptoRow, standIns := [], harness := (true, "b71edeec65426a1bf1ac7fbf7c1457e44812ea2edb42b5fd9ff717bb287b2cbe"), looks := true }, kinds := [], alts := [], laidByText := true, laidKinds := [.data, .data], laidTests := true, laidLooks := .later }
def ExprPutsUptoCardSaid : Prop := Claim7.holds Tryd.pinned (.plain (OpenSpec.upto exprPutsSpec)) exprPutsUptoCard

/-- THE SECOND FORM's CARD OF 'sorrellaw14.PatternSize'. -/
def patternSizeUptoCard : Claim7 := { stood := { row := patternSizeUptoRow, standIns := [], harness := (true, "b71edeec65426a1bf1ac7fbf7c1457e44812ea2edb42b5fd9ff717bb287b2cbe"), looks := true }, kinds := [], alts := [], laidByText := true, laidKinds := [.data, .data], laidTests := true, laidLooks := .later }
def PatternSizeUptoCardSaid : Prop := Claim7.holds Tryd.pinned (.plain (OpenSpec.upto patternSizeSpec)) patternSizeUptoCard

/-- THE SECOND FORM's CARD OF 'sorrellaw02.ExprOrders'. -/
def exprOrdersUptoCard : Claim7 := { stood := { row := exprOrdersUptoRow, standIns := [], harness := (true, "b71edeec65426a1bf1ac7fbf7c1457e44812ea2edb42b5fd9ff717bb287b2cbe"), looks := true }, kinds := [], alts := [], laidByText := true, laidKinds := [.data, .data], laidTests := true, laidLooks := .later }
def ExprOrdersUptoCardSaid : Prop := Claim7.holds Tryd.pinned (.plain (OpenSpec.upto exprOrdersSpec)) exprOrdersUptoCard

/-- THE SECOND FORM's CARD OF 'sorrellaw08.EvalPlays'. -/
def evalPlaysUptoCard : Claim7 := { stood := { row := evalPlaysUptoRow, standIns := [], harness := (true, "b71edeec65426a1bf1ac7fbf7c1457e44812ea2edb42b5fd9ff717bb287b2cbe"), looks := true }, kinds := [], alts := [], laidByText := true, laidKinds := [.data, .data], laidTests := true, laidLooks := .later }
def EvalPlaysUptoCardSaid : Prop := Claim7.holds Tryd.pinned (.plain (OpenSpec.upto evalPlaysSpec)) evalPlaysUptoCard

/-- THE SECOND FORM's CARD OF 'sorrellaw08.EvalKeeps'. -/
def evalKeepsUptoCard : Claim7 := { stood := { row := evalKeepsUptoRow, standIns := [], harness := (true, "b71edeec65426a1bf1ac7fbf7c1457e44812ea2edb42b5fd9ff717bb287b2cbe"), looks := true }, kinds := [], alts := [], laidByText := true, laidKinds := [.data, .data], laidTests := true, laidLooks := .later }
def EvalKeepsUptoCardSaid : Prop := Claim7.holds Tryd.pinned (.plain (OpenSpec.upto evalKeepsSpec)) evalKeepsUptoCard

/-- THE SECOND FORM's CARD OF 'sorrellaw08.EvalParts'. -/
def evalPartsUptoCard : Claim7 := { stood := { row := evalPartsUptoRow, standIns := [], harness := (true, "b71edeec65426a1bf1ac7fbf7c1457e44812ea2edb42b5fd9ff717bb287b2cbe"), looks := true }, kinds := [], alts := [], laidByText := true, laidKinds := [.data, .data], laidTests := true, laidLooks := .later }
def EvalPartsUptoCardSaid : Prop := Claim7.holds Tryd.pinned (.plain (OpenSpec.upto evalPartsSpec)) evalPartsUptoCard

/-- THE SECOND FORM's CARD OF 'sorrellaw08.EvalPut'. -/
def evalPutUptoCard : Claim7 := { stood := { row := evalPutUptoRow, standIns := [], harness := (true, "b71edeec65426a1bf1ac7fbf7c1457e44812ea2edb42b5fd9ff717bb287b2cbe"), looks := true }, kinds := [], alts := [], laidByText := true, laidKinds := [.data, .data], laidTests := true, laidLooks := .later }
def EvalPutUptoCardSaid : Prop := Claim7.holds Tryd.pinned (.plain (OpenSpec.upto evalPutSpec)) evalPutUptoCard

/-- THE SECOND FORM's CARD OF 'sorrellaw08.EvalTerms'. -/
def evalTermsUptoCard : Claim7 := { stood := { row := evalTermsUptoRow, standIns := [], harness := (true, "b71edeec65426a1bf1ac7fbf7c1457e44812ea2edb42b5fd9ff717bb287b2cbe"), looks := true }, kinds := [], alts := [], laidByText := true, laidKinds := [.data, .data], laidTests := true, laidLooks := .later }
def EvalTermsUptoCardSaid : Prop := Claim7.holds Tryd.pinned (.plain (OpenSpec.upto evalTermsSpec)) evalTermsUptoCard

/-- THE SECOND FORM's CARD OF 'sorrellaw14.PatternMeans'. -/
def patternMeansUptoCard : Claim7 := { stood := { row := patternMeansUptoRow, standIns := [], harness := (true, "b71edeec65426a1bf1ac7fbf7c1457e44812ea2edb42b5fd9ff717bb287b2cbe"), looks := true }, kinds := [], alts := [], laidByText := true, laidKinds := [.data, .data], laidTests := true, laidLooks := .later }
def PatternMeansUptoCardSaid : Prop := Claim7.holds Tryd.pinned (.plain (OpenSpec.upto patternMeansSpec)) patternMeansUptoCard

/-- THE SECOND FORM's CARD OF 'sorrellaw14.PatternPlays'. -/
def patternPlaysUptoCard : Claim7 := { stood := { row := patternPlaysUptoRow, standIns := [], harness := (true, "b71edeec65426a1bf1ac7fbf7c1457e44812ea2edb42b5fd9ff717bb287b2cbe"), looks := true }, kinds := [], alts := [], laidByText := true, laidKinds := [.data, .data], laidTests := true, laidLooks := .later }
def PatternPlaysUptoCardSaid : Prop := Claim7.holds Tryd.pinned (.plain (OpenSpec.upto patternPlaysSpec)) patternPlaysUptoCard

/-- THE SECOND FORM's CARD OF 'sorrellaw14.PatternBack'. -/
def patternBackUptoCard : Claim7 := { stood := { row := patternBackUptoRow, standIns := [], harness := (true, "b71edeec65426a1bf1ac7fbf7c1457e44812ea2edb42b5fd9ff717bb287b2cbe"), looks := true }, kinds := [], alts := [], laidByText := true, laidKinds := [.data, .data], laidTests := true, laidLooks := .later }
def PatternBackUptoCardSaid : Prop := Claim7.holds Tryd.pinned (.plain (OpenSpec.upto patternBackSpec)) patternBackUptoCard

/-- THE SECOND FORM's CARD OF 'sorrellaw14.PatternPlain'. -/
def patternPlainUptoCard : Claim7 := { stood := { row := patternPlainUptoRow, standIns := [], harness := (true, "b71edeec65426a1bf1ac7fbf7c1457e44812ea2edb42b5fd9ff717bb287b2cbe"), looks := true }, kinds := [], alts := [], laidByText := true, laidKinds := [.data, .data], laidTests := true, laidLooks := .later }
def PatternPlainUptoCardSaid : Prop := Claim7.holds Tryd.pinned (.plain (OpenSpec.upto patternPlainSpec)) patternPlainUptoCard

/-- THE SECOND FORM's CARD OF 'sorrellaw14.PatternKeeps'. -/
def patternKeepsUptoCard : Claim7 := { stood := { row := patternKeepsUptoRow, standIns := [], harness := (true, "b71edeec65426a1bf1ac7fbf7c1457e44812ea2edb42b5fd9ff717bb287b2cbe"), looks := true }, kinds := [], alts := [], laidByText := true, laidKinds := [.data, .data], laidTests := true, laidLooks := .later }
def PatternKeepsUptoCardSaid : Prop := Claim7.holds Tryd.pinned (.plain (OpenSpec.upto patternKeepsSpec)) patternKeepsUptoCard

/-- THE SECOND FORM's CARD OF 'sorrellaw02.ExprRebuilds'. -/
def exprRebuildsUptoCard : Claim7 := { stood := { row := exprRebuildsUptoRow, standIns := [], harness := (true, "b71edeec65426a1bf1ac7fbf7c1457e44812ea2edb42b5fd9ff717bb287b2cbe"), looks := true }, kinds := [], alts := [], laidByText := true, laidKinds := [.data, .data], laidTests := true, laidLooks := .later }
def ExprRebuildsUptoCardSaid : Prop := Claim7.holds Tryd.pinned (.plain (OpenSpec.upto exprRebuildsSpec)) exprRebuildsUptoCard

/-- THE SECOND FORM's CARD OF 'sorrellaw02.ExprPlays'. -/
def exprPlaysUptoCard : Claim7 := { stood := { row := exprPlaysUptoRow, standIns := [], harness := (true, "b71edeec65426a1bf1ac7fbf7c1457e44812ea2edb42b5fd9ff717bb287b2cbe"), looks := true }, kinds := [], alts := [], laidByText := true, laidKinds := [.data, .data], laidTests := true, laidLooks := .later }
def ExprPlaysUptoCardSaid : Prop := Claim7.holds Tryd.pinned (.plain (OpenSpec.upto exprPlaysSpec)) exprPlaysUptoCard

/-- THE SECOND FORM's CARD OF 'sorrellaw08.EvalNames'. -/
def evalNamesUptoCard : Claim7 := { stood := { row := evalNamesUptoRow, standIns := [], harness := (true, "b71edeec65426a1bf1ac7fbf7c1457e44812ea2edb42b5fd9ff717bb287b2cbe"), looks := true }, kinds := [], alts := [], laidByText := true, laidKinds := [.data, .data], laidTests := true, laidLooks := .later }
def EvalNamesUptoCardSaid : Prop := Claim7.holds Tryd.pinned (.plain (OpenSpec.upto evalNamesSpec)) evalNamesUptoCard

/-- THE SECOND FORM's CARD OF 'sorrellaw02.ExprKeeps'. -/
def exprKeepsUptoCard : Claim7 := { stood := { row := exprKeepsUptoRow, standIns := [], harness := (true, "b71edeec65426a1bf1ac7fbf7c1457e44812ea2edb42b5fd9ff717bb287b2cbe"), looks := true }, kinds := [], alts := [], laidByText := true, laidKinds := [.data, .data], laidTests := true, laidLooks := .later }
def ExprKeepsUptoCardSaid : Prop := Claim7.holds Tryd.pinned (.plain (OpenSpec.upto exprKeepsSpec)) exprKeepsUptoCard
end Rows
end Go.Proofs.YtacjjfoelhckcaaDoor
