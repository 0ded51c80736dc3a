/- Kept of the text WInvWords: what is reached (wip/tools/prune.py). -/
import Derived.Test.YtcdlccnpbhjgkaaVWInv
import Derived.Test.YtcdlccnpbhjgkaaVWFootNe
namespace Go.Proofs.YtcdlccnpbhjgkaaW.PrintWords
open Go.RowKit
end Go.Proofs.YtcdlccnpbhjgkaaW.PrintWords
namespace Go.Proofs.YtcdlccnpbhjgkaaW.PrintLast
section
variable {ops : Array Oper} {a : Act} {o og : Oper} {g : Nat} {t : Tmp} {u : Bool}
end
end Go.Proofs.YtcdlccnpbhjgkaaW.PrintLast
