/- Contracts of package term's texts and Order over this seat's program. Every two terms. -/
import Derived.Test.YtbchkhjkajagfaaGreatDoorTmKind
import Derived.StillTailTactics
namespace Go.Proofs.YtbchkhjkajagfaaGreatDoor
open Go Go.RowKit
set_option linter.unusedVariables false
set_option linter.unusedSimpArgs false
def textsV (x : Tm) : Value := .agg #[.string (text0 x), .string (text1 x), .string (text2 x)]
def orderV (x y : Tm) : Int := orV [cmpI (kindV x) (kindV y), cmpS (text0 x) (text0 y), cmpS (text1 x) (text1 y), cmpS (text2 x) (text2 y)]
end Go.Proofs.YtbchkhjkajagfaaGreatDoor
