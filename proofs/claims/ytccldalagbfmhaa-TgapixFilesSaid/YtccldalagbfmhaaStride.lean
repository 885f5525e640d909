/- num: Ceil and Stride. -/
import Derived.Test.YtccldalagbfmhaaNum
namespace Go.Proofs.Ytccldalagbfmhaa
open Go.RowKit
set_option linter.unusedVariables false
set_option linter.unusedSimpArgs false

end Go.Proofs.Ytccldalagbfmhaa
