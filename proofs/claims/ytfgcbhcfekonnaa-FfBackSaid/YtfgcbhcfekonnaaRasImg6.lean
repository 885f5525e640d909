/- A pixel of an image, the document's. -/
import Derived.Test.YtfgcbhcfekonnaaRasImg4
import Derived.BigRegion
namespace Go.Proofs.Ytfgcbhcfekonnaa
open Go.RowKit
set_option linter.unusedVariables false
set_option linter.unusedSimpArgs false

end Go.Proofs.Ytfgcbhcfekonnaa
