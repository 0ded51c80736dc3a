/- Kept of the text WEqStruct: what is reached (wip/tools/prune.py). -/
import Derived.Test.YtkeadpichlgagaaVWWords
import Derived.Laws.StructEq
namespace Go.Proofs.YtkeadpichlgagaaW.PrintWords
open Go.RowKit
section
variable {P : Program} {d : Nat} {xs ys : Array Value} {f : Field} {fs : List Field} {a b : Value} {r s : Bool} {w : World}
end
end Go.Proofs.YtkeadpichlgagaaW.PrintWords
