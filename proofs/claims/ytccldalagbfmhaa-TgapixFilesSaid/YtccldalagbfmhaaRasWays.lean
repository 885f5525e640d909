/- A raster is made, told with all its ways at once. -/
import Derived.Test.YtccldalagbfmhaaWays
import Derived.Test.YtccldalagbfmhaaFfE
namespace Go.Proofs.Ytccldalagbfmhaa
open Go.RowKit
set_option linter.unusedVariables false

end Go.Proofs.Ytccldalagbfmhaa
