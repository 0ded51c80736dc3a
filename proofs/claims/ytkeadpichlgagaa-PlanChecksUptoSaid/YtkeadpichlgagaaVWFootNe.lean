/- Kept of the text WFootNe: what is reached (wip/tools/prune.py). -/
import Derived.Test.YtkeadpichlgagaaVWN
namespace Go.Proofs.YtkeadpichlgagaaW.PrintWords
open Go.RowKit
namespace Kd
section
variable {α : Type} {d : Kd α} {W : World} {g n : Nat} {S ok : Nat → Prop} {A : Option Addr} {ad : Addr} {xs : List α}
end
end Kd
end Go.Proofs.YtkeadpichlgagaaW.PrintWords
