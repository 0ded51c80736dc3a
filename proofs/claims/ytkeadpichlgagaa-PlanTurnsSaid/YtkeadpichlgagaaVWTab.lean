/- Kept of the text WTab: what is reached (wip/tools/prune.py). -/
import Derived.Test.YtkeadpichlgagaaVWLast
import Derived.Test.YtkeadpichlgagaaVWWords
namespace Go.Proofs.YtkeadpichlgagaaW.PrintLast
open Go.Proofs.YtkeadpichlgagaaW.PrintWords (Aside0)
section
variable {md : Region.Mode} {ops : Array Oper} {T : Bool × List (List Nat × List Nat)} {l l' li lj lk : Array Bool} {ds : List Nat} {i j k : Nat}
end
end Go.Proofs.YtkeadpichlgagaaW.PrintLast
