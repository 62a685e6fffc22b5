/- The walks of package text: Fold, both. -/
import Derived.Test.YtofkdeojabongaaDoorText0
namespace Go.Proofs.YtofkdeojabongaaDoor
open Go.RowKit Go.PlainAid
set_option linter.unusedVariables false
set_option linter.unusedSimpArgs false
end Go.Proofs.YtofkdeojabongaaDoor
