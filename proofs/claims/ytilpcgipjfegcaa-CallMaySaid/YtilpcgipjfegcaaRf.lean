/- The document's small functions, and few. -/
import Derived.Test.YtilpcgipjfegcaaSm
namespace Go.Proofs.Ytilpcgipjfegcaa
open Go.RowKit
set_option linter.unusedVariables false
set_option linter.unusedSimpArgs false

end Go.Proofs.Ytilpcgipjfegcaa
