/- Kept of the text PWaveReadyx2: what is reached (wip/tools/prune.py). -/
import Derived.Test.YtkeadpichlgagaaVPWaveReadyx0
namespace Go.Proofs.Ytkeadpichlgagaa.PWaveReady
open Go.RowKit Go.Proofs.YtkeadpichlgagaaW.PrintWords Go.Proofs.YtkeadpichlgagaaW.PrintLast Go.Proofs.YtkeadpichlgagaaW.PrintMore
attribute [local go_sem] max2_int min2_int max_two min_two max_three min_three max_four min_four   -- for this text's walks alone
set_option linter.unusedVariables false
set_option linter.unusedSimpArgs false
end Go.Proofs.Ytkeadpichlgagaa.PWaveReady
