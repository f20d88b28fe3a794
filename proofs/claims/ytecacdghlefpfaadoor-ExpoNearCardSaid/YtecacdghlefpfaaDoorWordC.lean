/- The walks of the layer word: each function comes to the plain number of WordS. -/
import Derived.Test.YtecacdghlefpfaaDoorBitsC
import Derived.Test.YtecacdghlefpfaaDoorWordS
set_option linter.unusedVariables false
namespace Go.Proofs.YtecacdghlefpfaaDoor
open Go.RowKit Go.Shelf

end Go.Proofs.YtecacdghlefpfaaDoor
