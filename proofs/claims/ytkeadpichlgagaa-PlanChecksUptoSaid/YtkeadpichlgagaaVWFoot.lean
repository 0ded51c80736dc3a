/- Kept of the text WFoot: what is reached (wip/tools/prune.py). -/
import Derived.Test.YtkeadpichlgagaaVWApart
import Derived.Test.YtkeadpichlgagaaVWArr
namespace Go.Proofs.YtkeadpichlgagaaW.PrintWords
open Go.RowKit
namespace Kd
section
variable {α : Type} {d : Kd α} {e base g n c : Nat} {ok : Nat → Prop} {w w0 W : World} {A : Option Addr} {xs : List α}
end
end Kd
end Go.Proofs.YtkeadpichlgagaaW.PrintWords
