/- A pixel of an image, the document's. -/
import Derived.Test.YtojobfnbakiicaaRasImg4
import Derived.BigRegion
namespace Go.Proofs.Ytojobfnbakiicaa
open Go.RowKit
set_option linter.unusedVariables false
set_option linter.unusedSimpArgs false

end Go.Proofs.Ytojobfnbakiicaa
