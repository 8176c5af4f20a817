/-
  NARROWER THAN 'FOR EVERY INPUT', by the rows' own cells (each row's printed sentence says how): ExprMakes: laid · ExprSwaps: laid · ExprPuts: laid · PatternSize: laid · ExprOrders: laid · EvalPlays: laid · EvalKeeps: laid · EvalParts: laid · EvalPut: laid · EvalTerms: laid · PatternMeans: laid · PatternPlays: laid · PatternBack: laid · PatternPlain: laid · PatternKeeps: laid · ExprRebuilds: laid · ExprPlays: laid · EvalNames: laid · ExprKeeps: laid.
  DERIVED. THE GIVEN ROWS OF THIS SEAT. 19 by the template 'for every input the law returns true; each argument reads behind the call as it read before'; 0 by the template 'total and deterministic' (their statements: YtacjjfoelhckcaaDoorTotals.lean).
  GIVEN WITH THE SEED: the statements are not yours to turn. If you find one false, say at which input.
  Laid BY PROGRAM, IN A SANDBOX (cutbox-rows.mjs): the forced cells as the released guide's own fill.sh prints them over the translation 52ce80151ae000cb… (all of the seat's roots in one cut). By AI agents, Wed Nov 11 2026. No macro, syntax, notation, axiom, sorry.
-/
import Derived.Test.YtacjjfoelhckcaaDoorChecked
import GoSem.Claim
import GoSem.ClaimJoined
import GoSem.ClaimMapViews
import Derived.JoinedTies
import Derived.KernelRfl
namespace Go.Proofs.YtacjjfoelhckcaaDoor
/- THE CELL 'sum', in the pinned program and in every row, IS THE sha256 OF THE DUMP (.gsa) THAT YtacjjfoelhckcaaDoorProg.lean LOADS. Nothing in Lean hashes anything: it is a label: what it is worth is what the hold of that sum in a sandbox is worth. -/
noncomputable def Tryd.pinned : Pinned := { name := "ytacjjfoelhckcaadoor", sum := "52ce80151ae000cbb04cd774be1cb62b6636bd126a15beb98f79722e09b99004", checked := Tryd.checked }
namespace Rows
def none {H : Type} : Left H := { results := [], args := [] }

/- WHAT THE LISTED PACKAGE-LEVEL VARIABLES READ AS WHEN THE CALL BEGINS. Each datum BY PROGRAM (the guide's laid-datum.mjs) off the statement by which the dump's own 'gosem.cut.vars' lays the variable. In a bare row this is a premise. The card (YtacjjfoelhckcaaDoorCards.lean) ties it to the program's text. -/
def laid_sorrel_runes_letters {H : Type} : DataW H := .agg [.agg [.lit (.int .i32 97), .lit (.int .i32 122)], .agg [.lit (.int .i32 65), .lit (.int .i32 90)], .agg [.lit (.int .i32 95), .lit (.int .i32 95)], .agg [.lit (.int .i32 192), .lit (.int .i32 214)], .agg [.lit (.int .i32 216), .lit (.int .i32 246)], .agg [.lit (.int .i32 248), .lit (.int .i32 591)], .agg [.lit (.int .i32 880), .lit (.int .i32 893)], .agg [.lit (.int .i32 895), .lit (.int .i32 902)], .agg [.lit (.int .i32 904), .lit (.int .i32 1023)], .agg [.lit (.int .i32 1024), .lit (.int .i32 1153)], .agg [.lit (.int .i32 1162), .lit (.int .i32 1327)], .agg [.lit (.int .i32 19968), .lit (.int .i32 40959)], .agg [.lit (.int .i32 66560), .lit (.int .i32 66639)]]
def laid_sorrel_runes_zeros {H : Type} : DataW H := .agg [.lit (.int .i32 48), .lit (.int .i32 1632), .lit (.int .i32 65296)]

/-- 'sorrellaw02.ExprMakes': WHATEVER THE INPUT: true; the input reads as it did. -/
def exprMakesSpec : ChangeSpec := { name := "exprMakes", fn := fun _ => fun
  | [d] => { results := [.lit (.bool true)], args := [d] }
  | _ => none }
def exprMakesRow : OpenClaim := { program := "ytacjjfoelhckcaadoor", sum := "52ce80151ae000cbb04cd774be1cb62b6636bd126a15beb98f79722e09b99004", func := "sorrel/sorrellaw02.ExprMakes", spec := "exprMakes", recurses := true, named := ["sorrel/runes.letters", "sorrel/runes.zeros"], apart := false, laid := [("sorrel/runes.letters", laid_sorrel_runes_letters), ("sorrel/runes.zeros", laid_sorrel_runes_zeros)] }
def ExprMakesSaid : Prop := exprMakesRow.holds Tryd.pinned (OpenSpec.ofChange exprMakesSpec)

/-- ITS FALSE NEIGHBOUR: 'it returns false'. Refute it at one input. -/
def exprMakesWrong : ChangeSpec := { name := "exprMakes", fn := fun _ => fun
  | [d] => { results := [.lit (.bool false)], args := [d] }
  | _ => none }
def ExprMakesWrongFalsely : Prop := exprMakesRow.holds Tryd.pinned (OpenSpec.ofChange exprMakesWrong)

/-- 'sorrellaw02.ExprSwaps': WHATEVER THE INPUT: true; the input reads as it did. -/
def exprSwapsSpec : ChangeSpec := { name := "exprSwaps", fn := fun _ => fun
  | [d1, d2, d3] => { results := [.lit (.bool true)], args := [d1, d2, d3] }
  | _ => none }
def exprSwapsRow : OpenClaim := { program := "ytacjjfoelhckcaadoor", sum := "52ce80151ae000cbb04cd774be1cb62b6636bd126a15beb98f79722e09b99004", func := "sorrel/sorrellaw02.ExprSwaps", spec := "exprSwaps", unfollowed := true, recurses := true, named := ["sorrel/runes.letters", "sorrel/runes.zeros"], apart := false, laid := [("sorrel/runes.letters", laid_sorrel_runes_letters), ("sorrel/runes.zeros", laid_sorrel_runes_zeros)] }
def ExprSwapsSaid : Prop := exprSwapsRow.holds Tryd.pinned (OpenSpec.ofChange exprSwapsSpec)

/-- ITS FALSE NEIGHBOUR: 'it returns false'. Refute it at one input. -/
def exprSwapsWrong : ChangeSpec := { name := "exprSwaps", fn := fun _ => fun
  | [d1, d2, d3] => { results := [.lit (.bool false)], args := [d1, d2, d3] }
  | _ => none }
def ExprSwapsWrongFalsely : Prop := exprSwapsRow.holds Tryd.pinned (OpenSpec.ofChange exprSwapsWrong)

/-- 'sorrellaw02.ExprPuts': WHATEVER THE INPUT: true; the input reads as it did. -/
def exprPutsSpec : ChangeSpec := { name := "exprPuts", fn := fun _ => fun
  | [d1, d2, d3] => { results := [.lit (.bool true)], args := [d1, d2, d3] }
  | _ => none }
def exprPutsRow : OpenClaim := { program := "ytacjjfoelhckcaadoor", sum := "52ce80151ae000cbb04cd774be1cb62b6636bd126a15beb98f79722e09b99004", func := "sorrel/sorrellaw02.ExprPuts", spec := "exprPuts", recurses := true, named := ["sorrel/runes.letters", "sorrel/runes.zeros"], apart := false, laid := [("sorrel/runes.letters", laid_sorrel_runes_letters), ("sorrel/runes.zeros", laid_sorrel_runes_zeros)] }
def ExprPutsSaid : Prop := exprPutsRow.holds Tryd.pinned (OpenSpec.ofChange exprPutsSpec)

/-- ITS FALSE NEIGHBOUR: 'it returns false'. Refute it at one input. -/
def exprPutsWrong : ChangeSpec := { name := "exprPuts", fn := fun _ => fun
  | [d1, d2, d3] => { results := [.lit (.bool false)], args := [d1, d2, d3] }
  | _ => none }
def ExprPutsWrongFalsely : Prop := exprPutsRow.holds Tryd.pinned (OpenSpec.ofChange exprPutsWrong)

/-- 'sorrellaw14.PatternSize': WHATEVER THE INPUT: true; the input reads as it did. -/
def patternSizeSpec : ChangeSpec := { name := "patternSize", fn := fun _ => fun
  | [d1, d2] => { results := [.lit (.bool true)], args := [d1, d2] }
  | _ => none }
def patternSizeRow : OpenClaim := { program := "ytacjjfoelhckcaadoor", sum := "52ce80151ae000cbb04cd774be1cb62b6636bd126a15beb98f79722e09b99004", func := "sorrel/sorrellaw14.PatternSize", spec := "patternSize", unfollowed := true, recurses := true, named := ["sorrel/runes.letters", "sorrel/runes.zeros"], apart := false, laid := [("sorrel/runes.letters", laid_sorrel_runes_letters), ("sorrel/runes.zeros", laid_sorrel_runes_zeros)] }
def PatternSizeSaid : Prop := patternSizeRow.holds Tryd.pinned (OpenSpec.ofChange patternSizeSpec)

/-- ITS FALSE NEIGHBOUR: 'it returns false'. Refute it at one input. -/
def patternSizeWrong : ChangeSpec := { name := "patternSize", fn := fun _ => fun
  | [d1, d2] => { results := [.lit (.bool false)], args := [d1, d2] }
  | _ => none }
def PatternSizeWrongFalsely : Prop := patternSizeRow.holds Tryd.pinned (OpenSpec.ofChange patternSizeWrong)

/-- 'sorrellaw02.ExprOrders': WHATEVER THE INPUT: true; the input reads as it did. -/
def exprOrdersSpec : ChangeSpec := { name := "exprOrders", fn := fun _ => fun
  | [d1, d2, d3] => { results := [.lit (.bool true)], args := [d1, d2, d3] }
  | _ => none }
def exprOrdersRow : OpenClaim := { program := "ytacjjfoelhckcaadoor", sum := "52ce80151ae000cbb04cd774be1cb62b6636bd126a15beb98f79722e09b99004", func := "sorrel/sorrellaw02.ExprOrders", spec := "exprOrders", recurses := true, named := ["sorrel/runes.letters", "sorrel/runes.zeros"], apart := false, laid := [("sorrel/runes.letters", laid_sorrel_runes_letters), ("sorrel/runes.zeros", laid_sorrel_runes_zeros)] }
def ExprOrdersSaid : Prop := exprOrdersRow.holds Tryd.pinned (OpenSpec.ofChange exprOrdersSpec)

/-- ITS FALSE NEIGHBOUR: 'it returns false'. Refute it at one input. -/
def exprOrdersWrong : ChangeSpec := { name := "exprOrders", fn := fun _ => fun
  | [d1, d2, d3] => { results := [.lit (.bool false)], args := [d1, d2, d3] }
  | _ => none }
def ExprOrdersWrongFalsely : Prop := exprOrdersRow.holds Tryd.pinned (OpenSpec.ofChange exprOrdersWrong)

/-- 'sorrellaw08.EvalPlays': WHATEVER THE INPUT: true; the input reads as it did. -/
def evalPlaysSpec : ChangeSpec := { name := "evalPlays", fn := fun _ => fun
  | [d1, d2] => { results := [.lit (.bool true)], args := [d1, d2] }
  | _ => none }
def evalPlaysRow : OpenClaim := { program := "ytacjjfoelhckcaadoor", sum := "52ce80151ae000cbb04cd774be1cb62b6636bd126a15beb98f79722e09b99004", func := "sorrel/sorrellaw08.EvalPlays", spec := "evalPlays", recurses := true, named := ["sorrel/runes.letters", "sorrel/runes.zeros"], apart := false, laid := [("sorrel/runes.letters", laid_sorrel_runes_letters), ("sorrel/runes.zeros", laid_sorrel_runes_zeros)] }
def EvalPlaysSaid : Prop := evalPlaysRow.holds Tryd.pinned (OpenSpec.ofChange evalPlaysSpec)

/-- ITS FALSE NEIGHBOUR: 'it returns false'. Refute it at one input. -/
def evalPlaysWrong : ChangeSpec := { name := "evalPlays", fn := fun _ => fun
  | [d1, d2] => { results := [.lit (.bool false)], args := [d1, d2] }
  | _ => none }
def EvalPlaysWrongFalsely : Prop := evalPlaysRow.holds Tryd.pinned (OpenSpec.ofChange evalPlaysWrong)

/-- 'sorrellaw08.EvalKeeps': WHATEVER THE INPUT: true; the input reads as it did. -/
def evalKeepsSpec : ChangeSpec := { name := "evalKeeps", fn := fun _ => fun
  | [d1, d2, d3] => { results := [.lit (.bool true)], args := [d1, d2, d3] }
  | _ => none }
def evalKeepsRow : OpenClaim := { program := "ytacjjfoelhckcaadoor", sum := "52ce80151ae000cbb04cd774be1cb62b6636bd126a15beb98f79722e09b99004", func := "sorrel/sorrellaw08.EvalKeeps", spec := "evalKeeps", named := ["sorrel/runes.letters", "sorrel/runes.zeros"], apart := false, laid := [("sorrel/runes.letters", laid_sorrel_runes_letters), ("sorrel/runes.zeros", laid_sorrel_runes_zeros)] }
def EvalKeepsSaid : Prop := evalKeepsRow.holds Tryd.pinned (OpenSpec.ofChange evalKeepsSpec)

/-- ITS FALSE NEIGHBOUR: 'it returns false'. Refute it at one input. -/
def evalKeepsWrong : ChangeSpec := { name := "evalKeeps", fn := fun _ => fun
  | [d1, d2, d3] => { results := [.lit (.bool false)], args := [d1, d2, d3] }
  | _ => none }
def EvalKeepsWrongFalsely : Prop := evalKeepsRow.holds Tryd.pinned (OpenSpec.ofChange evalKeepsWrong)

/-- 'sorrellaw08.EvalParts': WHATEVER THE INPUT: true; the input reads as it did. -/
def evalPartsSpec : ChangeSpec := { name := "evalParts", fn := fun _ => fun
  | [d1, d2] => { results := [.lit (.bool true)], args := [d1, d2] }
  | _ => none }
def evalPartsRow : OpenClaim := { program := "ytacjjfoelhckcaadoor", sum := "52ce80151ae000cbb04cd774be1cb62b6636bd126a15beb98f79722e09b99004", func := "sorrel/sorrellaw08.EvalParts", spec := "evalParts", named := ["sorrel/runes.letters", "sorrel/runes.zeros"], apart := false, laid := [("sorrel/runes.letters", laid_sorrel_runes_letters), ("sorrel/runes.zeros", laid_sorrel_runes_zeros)] }
def EvalPartsSaid : Prop := evalPartsRow.holds Tryd.pinned (OpenSpec.ofChange evalPartsSpec)

/-- ITS FALSE NEIGHBOUR: 'it returns false'. Refute it at one input. -/
def evalPartsWrong : ChangeSpec := { name := "evalParts", fn := fun _ => fun
  | [d1, d2] => { results := [.lit (.bool false)], args := [d1, d2] }
  | _ => none }
def EvalPartsWrongFalsely : Prop := evalPartsRow.holds Tryd.pinned (OpenSpec.ofChange evalPartsWrong)

/-- 'sorrellaw08.EvalPut': WHATEVER THE INPUT: true; the input reads as it did. -/
def evalPutSpec : ChangeSpec := { name := "evalPut", fn := fun _ => fun
  | [d1, d2, d3] => { results := [.lit (.bool true)], args := [d1, d2, d3] }
  | _ => none }
def evalPutRow : OpenClaim := { program := "ytacjjfoelhckcaadoor", sum := "52ce80151ae000cbb04cd774be1cb62b6636bd126a15beb98f79722e09b99004", func := "sorrel/sorrellaw08.EvalPut", spec := "evalPut", named := ["sorrel/runes.letters", "sorrel/runes.zeros"], apart := false, laid := [("sorrel/runes.letters", laid_sorrel_runes_letters), ("sorrel/runes.zeros", laid_sorrel_runes_zeros)] }
def EvalPutSaid : Prop := evalPutRow.holds Tryd.pinned (OpenSpec.ofChange evalPutSpec)

/-- ITS FALSE NEIGHBOUR: 'it returns false'. Refute it at one input. -/
def evalPutWrong : ChangeSpec := { name := "evalPut", fn := fun _ => fun
  | [d1, d2, d3] => { results := [.lit (.bool false)], args := [d1, d2, d3] }
  | _ => none }
def EvalPutWrongFalsely : Prop := evalPutRow.holds Tryd.pinned (OpenSpec.ofChange evalPutWrong)

/-- 'sorrellaw08.EvalTerms': WHATEVER THE INPUT: true; the input reads as it did. -/
def evalTermsSpec : ChangeSpec := { name := "evalTerms", fn := fun _ => fun
  | [d1, d2] => { results := [.lit (.bool true)], args := [d1, d2] }
  | _ => none }
def evalTermsRow : OpenClaim := { program := "ytacjjfoelhckcaadoor", sum := "52ce80151ae000cbb04cd774be1cb62b6636bd126a15beb98f79722e09b99004", func := "sorrel/sorrellaw08.EvalTerms", spec := "evalTerms", unfollowed := true, recurses := true, named := ["sorrel/runes.letters", "sorrel/runes.zeros"], apart := false, laid := [("sorrel/runes.letters", laid_sorrel_runes_letters), ("sorrel/runes.zeros", laid_sorrel_runes_zeros)] }
def EvalTermsSaid : Prop := evalTermsRow.holds Tryd.pinned (OpenSpec.ofChange evalTermsSpec)

/-- ITS FALSE NEIGHBOUR: 'it returns false'. Refute it at one input. -/
def evalTermsWrong : ChangeSpec := { name := "evalTerms", fn := fun _ => fun
  | [d1, d2] => { results := [.lit (.bool false)], args := [d1, d2] }
  | _ => none }
def EvalTermsWrongFalsely : Prop := evalTermsRow.holds Tryd.pinned (OpenSpec.ofChange evalTermsWrong)

/-- 'sorrellaw14.PatternMeans': WHATEVER THE INPUT: true; the input reads as it did. -/
def patternMeansSpec : ChangeSpec := { name := "patternMeans", fn := fun _ => fun
  | [d1, d2, d3] => { results := [.lit (.bool true)], args := [d1, d2, d3] }
  | _ => none }
def patternMeansRow : OpenClaim := { program := "ytacjjfoelhckcaadoor", sum := "52ce80151ae000cbb04cd774be1cb62b6636bd126a15beb98f79722e09b99004", func := "sorrel/sorrellaw14.PatternMeans", spec := "patternMeans", unfollowed := true, recurses := true, named := ["sorrel/runes.letters", "sorrel/runes.zeros"], apart := false, laid := [("sorrel/runes.letters", laid_sorrel_runes_letters), ("sorrel/runes.zeros", laid_sorrel_runes_zeros)] }
def PatternMeansSaid : Prop := patternMeansRow.holds Tryd.pinned (OpenSpec.ofChange patternMeansSpec)

/-- ITS FALSE NEIGHBOUR: 'it returns false'. Refute it at one input. -/
def patternMeansWrong : ChangeSpec := { name := "patternMeans", fn := fun _ => fun
  | [d1, d2, d3] => { results := [.lit (.bool false)], args := [d1, d2, d3] }
  | _ => none }
def PatternMeansWrongFalsely : Prop := patternMeansRow.holds Tryd.pinned (OpenSpec.ofChange patternMeansWrong)

/-- 'sorrellaw14.PatternPlays': WHATEVER THE INPUT: true; the input reads as it did. -/
def patternPlaysSpec : ChangeSpec := { name := "patternPlays", fn := fun _ => fun
  | [d1, d2, d3] => { results := [.lit (.bool true)], args := [d1, d2, d3] }
  | _ => none }
def patternPlaysRow : OpenClaim := { program := "ytacjjfoelhckcaadoor", sum := "52ce80151ae000cbb04cd774be1cb62b6636bd126a15beb98f79722e09b99004", func := "sorrel/sorrellaw14.PatternPlays", spec := "patternPlays", unfollowed := true, recurses := true, named := ["sorrel/runes.letters", "sorrel/runes.zeros"], apart := false, laid := [("sorrel/runes.letters", laid_sorrel_runes_letters), ("sorrel/runes.zeros", laid_sorrel_runes_zeros)] }
def PatternPlaysSaid : Prop := patternPlaysRow.holds Tryd.pinned (OpenSpec.ofChange patternPlaysSpec)

/-- ITS FALSE NEIGHBOUR: 'it returns false'. Refute it at one input. -/
def patternPlaysWrong : ChangeSpec := { name := "patternPlays", fn := fun _ => fun
  | [d1, d2, d3] => { results := [.lit (.bool false)], args := [d1, d2, d3] }
  | _ => none }
def PatternPlaysWrongFalsely : Prop := patternPlaysRow.holds Tryd.pinned (OpenSpec.ofChange patternPlaysWrong)

/-- 'sorrellaw14.PatternBack': WHATEVER THE INPUT: true; the input reads as it did. -/
def patternBackSpec : ChangeSpec := { name := "patternBack", fn := fun _ => fun
  | [d1, d2, d3, d4] => { results := [.lit (.bool true)], args := [d1, d2, d3, d4] }
  | _ => none }
def patternBackRow : OpenClaim := { program := "ytacjjfoelhckcaadoor", sum := "52ce80151ae000cbb04cd774be1cb62b6636bd126a15beb98f79722e09b99004", func := "sorrel/sorrellaw14.PatternBack", spec := "patternBack", unfollowed := true, recurses := true, named := ["sorrel/runes.letters", "sorrel/runes.zeros"], apart := false, laid := [("sorrel/runes.letters", laid_sorrel_runes_letters), ("sorrel/runes.zeros", laid_sorrel_runes_zeros)] }
def PatternBackSaid : Prop := patternBackRow.holds Tryd.pinned (OpenSpec.ofChange patternBackSpec)

/-- ITS FALSE NEIGHBOUR: 'it returns false'. Refute it at one input. -/
def patternBackWrong : ChangeSpec := { name := "patternBack", fn := fun _ => fun
  | [d1, d2, d3, d4] => { results := [.lit (.bool false)], args := [d1, d2, d3, d4] }
  | _ => none }
def PatternBackWrongFalsely : Prop := patternBackRow.holds Tryd.pinned (OpenSpec.ofChange patternBackWrong)

/-- 'sorrellaw14.PatternPlain': WHATEVER THE INPUT: true; the input reads as it did. -/
def patternPlainSpec : ChangeSpec := { name := "patternPlain", fn := fun _ => fun
  | [d1, d2] => { results := [.lit (.bool true)], args := [d1, d2] }
  | _ => none }
def patternPlainRow : OpenClaim := { program := "ytacjjfoelhckcaadoor", sum := "52ce80151ae000cbb04cd774be1cb62b6636bd126a15beb98f79722e09b99004", func := "sorrel/sorrellaw14.PatternPlain", spec := "patternPlain", unfollowed := true, recurses := true, named := ["sorrel/runes.letters", "sorrel/runes.zeros"], apart := false, laid := [("sorrel/runes.letters", laid_sorrel_runes_letters), ("sorrel/runes.zeros", laid_sorrel_runes_zeros)] }
def PatternPlainSaid : Prop := patternPlainRow.holds Tryd.pinned (OpenSpec.ofChange patternPlainSpec)

/-- ITS FALSE NEIGHBOUR: 'it returns false'. Refute it at one input. -/
def patternPlainWrong : ChangeSpec := { name := "patternPlain", fn := fun _ => fun
  | [d1, d2] => { results := [.lit (.bool false)], args := [d1, d2] }
  | _ => none }
def PatternPlainWrongFalsely : Prop := patternPlainRow.holds Tryd.pinned (OpenSpec.ofChange patternPlainWrong)

/-- 'sorrellaw14.PatternKeeps': WHATEVER THE INPUT: true; the input reads as it did. -/
def patternKeepsSpec : ChangeSpec := { name := "patternKeeps", fn := fun _ => fun
  | [d1, d2, d3] => { results := [.lit (.bool true)], args := [d1, d2, d3] }
  | _ => none }
def patternKeepsRow : OpenClaim := { program := "ytacjjfoelhckcaadoor", sum := "52ce80151ae000cbb04cd774be1cb62b6636bd126a15beb98f79722e09b99004", func := "sorrel/sorrellaw14.PatternKeeps", spec := "patternKeeps", unfollowed := true, recurses := true, named := ["sorrel/runes.letters", "sorrel/runes.zeros"], apart := false, laid := [("sorrel/runes.letters", laid_sorrel_runes_letters), ("sorrel/runes.zeros", laid_sorrel_runes_zeros)] }
def PatternKeepsSaid : Prop := patternKeepsRow.holds Tryd.pinned (OpenSpec.ofChange patternKeepsSpec)

/-- ITS FALSE NEIGHBOUR: 'it returns false'. Refute it at one input. -/
def patternKeepsWrong : ChangeSpec := { name := "patternKeeps", fn := fun _ => fun
  | [d1, d2, d3] => { results := [.lit (.bool false)], args := [d1, d2, d3] }
  | _ => none }
def PatternKeepsWrongFalsely : Prop := patternKeepsRow.holds Tryd.pinned (OpenSpec.ofChange patternKeepsWrong)

/-- 'sorrellaw02.ExprRebuilds': WHATEVER THE INPUT: true; the input reads as it did. -/
def exprRebuildsSpec : ChangeSpec := { name := "exprRebuilds", fn := fun _ => fun
  | [d] => { results := [.lit (.bool true)], args := [d] }
  | _ => none }
def exprRebuildsRow : OpenClaim := { program := "ytacjjfoelhckcaadoor", sum := "52ce80151ae000cbb04cd774be1cb62b6636bd126a15beb98f79722e09b99004", func := "sorrel/sorrellaw02.ExprRebuilds", spec := "exprRebuilds", unfollowed := true, recurses := true, named := ["sorrel/runes.letters", "sorrel/runes.zeros"], apart := false, laid := [("sorrel/runes.letters", laid_sorrel_runes_letters), ("sorrel/runes.zeros", laid_sorrel_runes_zeros)] }
def ExprRebuildsSaid : Prop := exprRebuildsRow.holds Tryd.pinned (OpenSpec.ofChange exprRebuildsSpec)

/-- ITS FALSE NEIGHBOUR: 'it returns false'. Refute it at one input. -/
def exprRebuildsWrong : ChangeSpec := { name := "exprRebuilds", fn := fun _ => fun
  | [d] => { results := [.lit (.bool false)], args := [d] }
  | _ => none }
def ExprRebuildsWrongFalsely : Prop := exprRebuildsRow.holds Tryd.pinned (OpenSpec.ofChange exprRebuildsWrong)

/-- 'sorrellaw02.ExprPlays': WHATEVER THE INPUT: true; the input reads as it did. -/
def exprPlaysSpec : ChangeSpec := { name := "exprPlays", fn := fun _ => fun
  | [d1, d2, d3] => { results := [.lit (.bool true)], args := [d1, d2, d3] }
  | _ => none }
def exprPlaysRow : OpenClaim := { program := "ytacjjfoelhckcaadoor", sum := "52ce80151ae000cbb04cd774be1cb62b6636bd126a15beb98f79722e09b99004", func := "sorrel/sorrellaw02.ExprPlays", spec := "exprPlays", unfollowed := true, recurses := true, named := ["sorrel/runes.letters", "sorrel/runes.zeros"], apart := false, laid := [("sorrel/runes.letters", laid_sorrel_runes_letters), ("sorrel/runes.zeros", laid_sorrel_runes_zeros)] }
def ExprPlaysSaid : Prop := exprPlaysRow.holds Tryd.pinned (OpenSpec.ofChange exprPlaysSpec)

/-- ITS FALSE NEIGHBOUR: 'it returns false'. Refute it at one input. -/
def exprPlaysWrong : ChangeSpec := { name := "exprPlays", fn := fun _ => fun
  | [d1, d2, d3] => { results := [.lit (.bool false)], args := [d1, d2, d3] }
  | _ => none }
def ExprPlaysWrongFalsely : Prop := exprPlaysRow.holds Tryd.pinned (OpenSpec.ofChange exprPlaysWrong)

/-- 'sorrellaw08.EvalNames': WHATEVER THE INPUT: true; the input reads as it did. -/
def evalNamesSpec : ChangeSpec := { name := "evalNames", fn := fun _ => fun
  | [d1, d2, d3, d4] => { results := [.lit (.bool true)], args := [d1, d2, d3, d4] }
  | _ => none }
def evalNamesRow : OpenClaim := { program := "ytacjjfoelhckcaadoor", sum := "52ce80151ae000cbb04cd774be1cb62b6636bd126a15beb98f79722e09b99004", func := "sorrel/sorrellaw08.EvalNames", spec := "evalNames", unfollowed := true, recurses := true, named := ["sorrel/runes.letters", "sorrel/runes.zeros"], apart := false, laid := [("sorrel/runes.letters", laid_sorrel_runes_letters), ("sorrel/runes.zeros", laid_sorrel_runes_zeros)] }
def EvalNamesSaid : Prop := evalNamesRow.holds Tryd.pinned (OpenSpec.ofChange evalNamesSpec)

/-- ITS FALSE NEIGHBOUR: 'it returns false'. Refute it at one input. -/
def evalNamesWrong : ChangeSpec := { name := "evalNames", fn := fun _ => fun
  | [d1, d2, d3, d4] => { results := [.lit (.bool false)], args := [d1, d2, d3, d4] }
  | _ => none }
def EvalNamesWrongFalsely : Prop := evalNamesRow.holds Tryd.pinned (OpenSpec.ofChange evalNamesWrong)

/-- 'sorrellaw02.ExprKeeps': WHATEVER THE INPUT: true; the input reads as it did. -/
def exprKeepsSpec : ChangeSpec := { name := "exprKeeps", fn := fun _ => fun
  | [d1, d2, d3] => { results := [.lit (.bool true)], args := [d1, d2, d3] }
  | _ => none }
def exprKeepsRow : OpenClaim := { program := "ytacjjfoelhckcaadoor", sum := "52ce80151ae000cbb04cd774be1cb62b6636bd126a15beb98f79722e09b99004", func := "sorrel/sorrellaw02.ExprKeeps", spec := "exprKeeps", unfollowed := true, recurses := true, named := ["sorrel/runes.letters", "sorrel/runes.zeros"], apart := false, laid := [("sorrel/runes.letters", laid_sorrel_runes_letters), ("sorrel/runes.zeros", laid_sorrel_runes_zeros)] }
def ExprKeepsSaid : Prop := exprKeepsRow.holds Tryd.pinned (OpenSpec.ofChange exprKeepsSpec)

/-- ITS FALSE NEIGHBOUR: 'it returns false'. Refute it at one input. -/
def exprKeepsWrong : ChangeSpec := { name := "exprKeeps", fn := fun _ => fun
  | [d1, d2, d3] => { results := [.lit (.bool false)], args := [d1, d2, d3] }
  | _ => none }
def ExprKeepsWrongFalsely : Prop := exprKeepsRow.holds Tryd.pinned (OpenSpec.ofChange exprKeepsWrong)

/- THE SECOND FORM. 'bulk': how many values and letters a reading holds, each counted each time it is reached (what is shared counts as often as it is met; a slice's spare places count too). A statement '..UptoSaid' is the law's where the arguments, and the package variables that the reading takes, are together of bulk at most 1048576: NARROWER than '..Said'. Prove '..Said' where nothing that the law and all that it calls make is longer than what came in: it says more and counts as full. Else prove '..UptoSaid'. A law counts once. -/
mutual
def uptoBulk {H : Type} : DataW H → Nat
  | .lit (.string bytes) => bytes.length + 1
  | .lit _ => 1
  | .nil => 1
  | .ptr d => uptoBulk d + 1
  | .slice elems spare => uptoBulkAll elems + uptoBulkAll spare + 1
  | .agg parts => uptoBulkAll parts + 1
  | .iface _ d => uptoBulk d + 1
  | .map entries => uptoBulkEntries entries + 1
  | .held _ => 1
def uptoBulkAll {H : Type} : List (DataW H) → Nat
  | [] => 0
  | d :: r => uptoBulk d + uptoBulkAll r
def uptoBulkEntries {H : Type} : List (Lit × DataW H) → Nat
  | [] => 0
  | x :: r => uptoBulkEntry x + uptoBulkEntries r
def uptoBulkEntry {H : Type} : Lit × DataW H → Nat
  | (.string bytes, d) => bytes.length + uptoBulk d + 1
  | (_, d) => uptoBulk d + 1
 end
def uptoSmall : (H : Type) → List (DataW H) → Bool := fun _ ds => decide (uptoBulkAll ds ≤ 1048576)
def OpenSpec.upto (s : _root_.Go.ChangeSpec) : _root_.Go.OpenSpec := { _root_.Go.OpenSpec.ofChange s with cond := some uptoSmall }

/-- 'sorrellaw02.ExprMakes', WHERE WHAT IT READS IS OF BULK AT MOST 1048576: true; the input reads as it did. -/
def exprMakesUptoRow : OpenClaim := { program := "ytacjjfoelhckcaadoor", sum := "52ce80151ae000cbb04cd774be1cb62b6636bd126a15beb98f79722e09b99004", func := "sorrel/sorrellaw02.ExprMakes", spec := "exprMakes", recurses := true, named := ["sorrel/runes.letters", "sorrel/runes.zeros"], apart := false, laid := [("sorrel/runes.letters", laid_sorrel_runes_letters), ("sorrel/runes.zeros", laid_sorrel_runes_zeros)], narrowed := true }
def ExprMakesUptoSaid : Prop := exprMakesUptoRow.holds Tryd.pinned (OpenSpec.upto exprMakesSpec)

/-- 'sorrellaw02.ExprSwaps', WHERE WHAT IT READS IS OF BULK AT MOST 1048576: true; the input reads as it did. -/
def exprSwapsUptoRow : OpenClaim := { program := "ytacjjfoelhckcaadoor", sum := "52ce80151ae000cbb04cd774be1cb62b6636bd126a15beb98f79722e09b99004", func := "sorrel/sorrellaw02.ExprSwaps", spec := "exprSwaps", unfollowed := true, recurses := true, named := ["sorrel/runes.letters", "sorrel/runes.zeros"], apart := false, laid := [("sorrel/runes.letters", laid_sorrel_runes_letters), ("sorrel/runes.zeros", laid_sorrel_runes_zeros)], narrowed := true }
def ExprSwapsUptoSaid : Prop := exprSwapsUptoRow.holds Tryd.pinned (OpenSpec.upto exprSwapsSpec)

/-- 'sorrellaw02.ExprPuts', WHERE WHAT IT READS IS OF BULK AT MOST 1048576: true; the input reads as it did. -/
def exprPutsUptoRow : OpenClaim := { program := "ytacjjfoelhckcaadoor", sum := "52ce80151ae000cbb04cd774be1cb62b6636bd126a15beb98f79722e09b99004", func := "sorrel/sorrellaw02.ExprPuts", spec := "exprPuts", recurses := true, named := ["sorrel/runes.letters", "sorrel/runes.zeros"], apart := false, laid := [("sorrel/runes.letters", laid_sorrel_runes_letters), ("sorrel/runes.zeros", laid_sorrel_runes_zeros)], narrowed := true }
def ExprPutsUptoSaid : Prop := exprPutsUptoRow.holds Tryd.pinned (OpenSpec.upto exprPutsSpec)

/-- 'sorrellaw14.PatternSize', WHERE WHAT IT READS IS OF BULK AT MOST 1048576: true; the input reads as it did. -/
def patternSizeUptoRow : OpenClaim := { program := "ytacjjfoelhckcaadoor", sum := "52ce80151ae000cbb04cd774be1cb62b6636bd126a15beb98f79722e09b99004", func := "sorrel/sorrellaw14.PatternSize", spec := "patternSize", unfollowed := true, recurses := true, named := ["sorrel/runes.letters", "sorrel/runes.zeros"], apart := false, laid := [("sorrel/runes.letters", laid_sorrel_runes_letters), ("sorrel/runes.zeros", laid_sorrel_runes_zeros)], narrowed := true }
def PatternSizeUptoSaid : Prop := patternSizeUptoRow.holds Tryd.pinned (OpenSpec.upto patternSizeSpec)

/-- 'sorrellaw02.ExprOrders', WHERE WHAT IT READS IS OF BULK AT MOST 1048576: true; the input reads as it did. -/
def exprOrdersUptoRow : OpenClaim := { program := "ytacjjfoelhckcaadoor", sum := "52ce80151ae000cbb04cd774be1cb62b6636bd126a15beb98f79722e09b99004", func := "sorrel/sorrellaw02.ExprOrders", spec := "exprOrders", recurses := true, named := ["sorrel/runes.letters", "sorrel/runes.zeros"], apart := false, laid := [("sorrel/runes.letters", laid_sorrel_runes_letters), ("sorrel/runes.zeros", laid_sorrel_runes_zeros)], narrowed := true }
def ExprOrdersUptoSaid : Prop := exprOrdersUptoRow.holds Tryd.pinned (OpenSpec.upto exprOrdersSpec)

/-- 'sorrellaw08.EvalPlays', WHERE WHAT IT READS IS OF BULK AT MOST 1048576: true; the input reads as it did. -/
def evalPlaysUptoRow : OpenClaim := { program := "ytacjjfoelhckcaadoor", sum := "52ce80151ae000cbb04cd774be1cb62b6636bd126a15beb98f79722e09b99004", func := "sorrel/sorrellaw08.EvalPlays", spec := "evalPlays", recurses := true, named := ["sorrel/runes.letters", "sorrel/runes.zeros"], apart := false, laid := [("sorrel/runes.letters", laid_sorrel_runes_letters), ("sorrel/runes.zeros", laid_sorrel_runes_zeros)], narrowed := true }
def EvalPlaysUptoSaid : Prop := evalPlaysUptoRow.holds Tryd.pinned (OpenSpec.upto evalPlaysSpec)

/-- 'sorrellaw08.EvalKeeps', WHERE WHAT IT READS IS OF BULK AT MOST 1048576: true; the input reads as it did. -/
def evalKeepsUptoRow : OpenClaim := { program := "ytacjjfoelhckcaadoor", sum := "52ce80151ae000cbb04cd774be1cb62b6636bd126a15beb98f79722e09b99004", func := "sorrel/sorrellaw08.EvalKeeps", spec := "evalKeeps", named := ["sorrel/runes.letters", "sorrel/runes.zeros"], apart := false, laid := [("sorrel/runes.letters", laid_sorrel_runes_letters), ("sorrel/runes.zeros", laid_sorrel_runes_zeros)], narrowed := true }
def EvalKeepsUptoSaid : Prop := evalKeepsUptoRow.holds Tryd.pinned (OpenSpec.upto evalKeepsSpec)

/-- 'sorrellaw08.EvalParts', WHERE WHAT IT READS IS OF BULK AT MOST 1048576: true; the input reads as it did. -/
def evalPartsUptoRow : OpenClaim := { program := "ytacjjfoelhckcaadoor", sum := "52ce80151ae000cbb04cd774be1cb62b6636bd126a15beb98f79722e09b99004", func := "sorrel/sorrellaw08.EvalParts", spec := "evalParts", named := ["sorrel/runes.letters", "sorrel/runes.zeros"], apart := false, laid := [("sorrel/runes.letters", laid_sorrel_runes_letters), ("sorrel/runes.zeros", laid_sorrel_runes_zeros)], narrowed := true }
def EvalPartsUptoSaid : Prop := evalPartsUptoRow.holds Tryd.pinned (OpenSpec.upto evalPartsSpec)

/-- 'sorrellaw08.EvalPut', WHERE WHAT IT READS IS OF BULK AT MOST 1048576: true; the input reads as it did. -/
def evalPutUptoRow : OpenClaim := { program := "ytacjjfoelhckcaadoor", sum := "52ce80151ae000cbb04cd774be1cb62b6636bd126a15beb98f79722e09b99004", func := "sorrel/sorrellaw08.EvalPut", spec := "evalPut", named := ["sorrel/runes.letters", "sorrel/runes.zeros"], apart := false, laid := [("sorrel/runes.letters", laid_sorrel_runes_letters), ("sorrel/runes.zeros", laid_sorrel_runes_zeros)], narrowed := true }
def EvalPutUptoSaid : Prop := evalPutUptoRow.holds Tryd.pinned (OpenSpec.upto evalPutSpec)

/-- 'sorrellaw08.EvalTerms', WHERE WHAT IT READS IS OF BULK AT MOST 1048576: true; the input reads as it did. -/
def evalTermsUptoRow : OpenClaim := { program := "ytacjjfoelhckcaadoor", sum := "52ce80151ae000cbb04cd774be1cb62b6636bd126a15beb98f79722e09b99004", func := "sorrel/sorrellaw08.EvalTerms", spec := "evalTerms", unfollowed := true, recurses := true, named := ["sorrel/runes.letters", "sorrel/runes.zeros"], apart := false, laid := [("sorrel/runes.letters", laid_sorrel_runes_letters), ("sorrel/runes.zeros", laid_sorrel_runes_zeros)], narrowed := true }
def EvalTermsUptoSaid : Prop := evalTermsUptoRow.holds Tryd.pinned (OpenSpec.upto evalTermsSpec)

/-- 'sorrellaw14.PatternMeans', WHERE WHAT IT READS IS OF BULK AT MOST 1048576: true; the input reads as it did. -/
def patternMeansUptoRow : OpenClaim := { program := "ytacjjfoelhckcaadoor", sum := "52ce80151ae000cbb04cd774be1cb62b6636bd126a15beb98f79722e09b99004", func := "sorrel/sorrellaw14.PatternMeans", spec := "patternMeans", unfollowed := true, recurses := true, named := ["sorrel/runes.letters", "sorrel/runes.zeros"], apart := false, laid := [("sorrel/runes.letters", laid_sorrel_runes_letters), ("sorrel/runes.zeros", laid_sorrel_runes_zeros)], narrowed := true }
def PatternMeansUptoSaid : Prop := patternMeansUptoRow.holds Tryd.pinned (OpenSpec.upto patternMeansSpec)

/-- 'sorrellaw14.PatternPlays', WHERE WHAT IT READS IS OF BULK AT MOST 1048576: true; the input reads as it did. -/
def patternPlaysUptoRow : OpenClaim := { program := "ytacjjfoelhckcaadoor", sum := "52ce80151ae000cbb04cd774be1cb62b6636bd126a15beb98f79722e09b99004", func := "sorrel/sorrellaw14.PatternPlays", spec := "patternPlays", unfollowed := true, recurses := true, named := ["sorrel/runes.letters", "sorrel/runes.zeros"], apart := false, laid := [("sorrel/runes.letters", laid_sorrel_runes_letters), ("sorrel/runes.zeros", laid_sorrel_runes_zeros)], narrowed := true }
def PatternPlaysUptoSaid : Prop := patternPlaysUptoRow.holds Tryd.pinned (OpenSpec.upto patternPlaysSpec)

/-- 'sorrellaw14.PatternBack', WHERE WHAT IT READS IS OF BULK AT MOST 1048576: true; the input reads as it did. -/
def patternBackUptoRow : OpenClaim := { program := "ytacjjfoelhckcaadoor", sum := "52ce80151ae000cbb04cd774be1cb62b6636bd126a15beb98f79722e09b99004", func := "sorrel/sorrellaw14.PatternBack", spec := "patternBack", unfollowed := true, recurses := true, named := ["sorrel/runes.letters", "sorrel/runes.zeros"], apart := false, laid := [("sorrel/runes.letters", laid_sorrel_runes_letters), ("sorrel/runes.zeros", laid_sorrel_runes_zeros)], narrowed := true }
def PatternBackUptoSaid : Prop := patternBackUptoRow.holds Tryd.pinned (OpenSpec.upto patternBackSpec)

/-- 'sorrellaw14.PatternPlain', WHERE WHAT IT READS IS OF BULK AT MOST 1048576: true; the input reads as it did. -/
def patternPlainUptoRow : OpenClaim := { program := "ytacjjfoelhckcaadoor", sum := "52ce80151ae000cbb04cd774be1cb62b6636bd126a15beb98f79722e09b99004", func := "sorrel/sorrellaw14.PatternPlain", spec := "patternPlain", unfollowed := true, recurses := true, named := ["sorrel/runes.letters", "sorrel/runes.zeros"], apart := false, laid := [("sorrel/runes.letters", laid_sorrel_runes_letters), ("sorrel/runes.zeros", laid_sorrel_runes_zeros)], narrowed := true }
def PatternPlainUptoSaid : Prop := patternPlainUptoRow.holds Tryd.pinned (OpenSpec.upto patternPlainSpec)

/-- 'sorrellaw14.PatternKeeps', WHERE WHAT IT READS IS OF BULK AT MOST 1048576: true; the input reads as it did. -/
def patternKeepsUptoRow : OpenClaim := { program := "ytacjjfoelhckcaadoor", sum := "52ce80151ae000cbb04cd774be1cb62b6636bd126a15beb98f79722e09b99004", func := "sorrel/sorrellaw14.PatternKeeps", spec := "patternKeeps", unfollowed := true, recurses := true, named := ["sorrel/runes.letters", "sorrel/runes.zeros"], apart := false, laid := [("sorrel/runes.letters", laid_sorrel_runes_letters), ("sorrel/runes.zeros", laid_sorrel_runes_zeros)], narrowed := true }
def PatternKeepsUptoSaid : Prop := patternKeepsUptoRow.holds Tryd.pinned (OpenSpec.upto patternKeepsSpec)

/-- 'sorrellaw02.ExprRebuilds', WHERE WHAT IT READS IS OF BULK AT MOST 1048576: true; the input reads as it did. -/
def exprRebuildsUptoRow : OpenClaim := { program := "ytacjjfoelhckcaadoor", sum := "52ce80151ae000cbb04cd774be1cb62b6636bd126a15beb98f79722e09b99004", func := "sorrel/sorrellaw02.ExprRebuilds", spec := "exprRebuilds", unfollowed := true, recurses := true, named := ["sorrel/runes.letters", "sorrel/runes.zeros"], apart := false, laid := [("sorrel/runes.letters", laid_sorrel_runes_letters), ("sorrel/runes.zeros", laid_sorrel_runes_zeros)], narrowed := true }
def ExprRebuildsUptoSaid : Prop := exprRebuildsUptoRow.holds Tryd.pinned (OpenSpec.upto exprRebuildsSpec)

/-- 'sorrellaw02.ExprPlays', WHERE WHAT IT READS IS OF BULK AT MOST 1048576: true; the input reads as it did. -/
def exprPlaysUptoRow : OpenClaim := { program := "ytacjjfoelhckcaadoor", sum := "52ce80151ae000cbb04cd774be1cb62b6636bd126a15beb98f79722e09b99004", func := "sorrel/sorrellaw02.ExprPlays", spec := "exprPlays", unfollowed := true, recurses := true, named := ["sorrel/runes.letters", "sorrel/runes.zeros"], apart := false, laid := [("sorrel/runes.letters", laid_sorrel_runes_letters), ("sorrel/runes.zeros", laid_sorrel_runes_zeros)], narrowed := true }
def ExprPlaysUptoSaid : Prop := exprPlaysUptoRow.holds Tryd.pinned (OpenSpec.upto exprPlaysSpec)

/-- 'sorrellaw08.EvalNames', WHERE WHAT IT READS IS OF BULK AT MOST 1048576: true; the input reads as it did. -/
def evalNamesUptoRow : OpenClaim := { program := "ytacjjfoelhckcaadoor", sum := "52ce80151ae000cbb04cd774be1cb62b6636bd126a15beb98f79722e09b99004", func := "sorrel/sorrellaw08.EvalNames", spec := "evalNames", unfollowed := true, recurses := true, named := ["sorrel/runes.letters", "sorrel/runes.zeros"], apart := false, laid := [("sorrel/runes.letters", laid_sorrel_runes_letters), ("sorrel/runes.zeros", laid_sorrel_runes_zeros)], narrowed := true }
def EvalNamesUptoSaid : Prop := evalNamesUptoRow.holds Tryd.pinned (OpenSpec.upto evalNamesSpec)

/-- 'sorrellaw02.ExprKeeps', WHERE WHAT IT READS IS OF BULK AT MOST 1048576: true; the input reads as it did. -/
def exprKeepsUptoRow : OpenClaim := { program := "ytacjjfoelhckcaadoor", sum := "52ce80151ae000cbb04cd774be1cb62b6636bd126a15beb98f79722e09b99004", func := "sorrel/sorrellaw02.ExprKeeps", spec := "exprKeeps", unfollowed := true, recurses := true, named := ["sorrel/runes.letters", "sorrel/runes.zeros"], apart := false, laid := [("sorrel/runes.letters", laid_sorrel_runes_letters), ("sorrel/runes.zeros", laid_sorrel_runes_zeros)], narrowed := true }
def ExprKeepsUptoSaid : Prop := exprKeepsUptoRow.holds Tryd.pinned (OpenSpec.upto exprKeepsSpec)

end Rows
end Go.Proofs.YtacjjfoelhckcaaDoor
