/- Kept of the text WFour: what is reached (wip/tools/prune.py). -/
import Derived.Test.YtkeadpichlgagaaVWTab
namespace Go.Proofs.YtkeadpichlgagaaW.PrintLast
section
variable {P : Program} {ops : Array Oper} {Q : Exit → Act → World → Prop} {md : Region.Mode} {S : World → Prop} {ds : List Nat} {T : Bool × List (List Nat × List Nat)}
end
end Go.Proofs.YtkeadpichlgagaaW.PrintLast
