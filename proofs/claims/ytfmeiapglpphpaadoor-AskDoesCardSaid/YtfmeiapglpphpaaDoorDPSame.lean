import Derived.Test.YtfmeiapglpphpaaDoorDPLive
set_option linter.unusedSimpArgs false
set_option linter.unusedVariables false
/- Lists of numbers compared. -/
namespace Go.Proofs.YtfmeiapglpphpaaDoor.T
open Go Go.VL Go.Proofs
set_option maxRecDepth 100000
end Go.Proofs.YtfmeiapglpphpaaDoor.T
