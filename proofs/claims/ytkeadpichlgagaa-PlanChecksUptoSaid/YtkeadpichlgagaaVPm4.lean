/- Kept of the text Pm4: what is reached (wip/tools/prune.py). -/
import Derived.Test.YtkeadpichlgagaaVWLast
import Derived.Below
import Derived.Test.YtkeadpichlgagaaVWWords
import Derived.Test.YtkeadpichlgagaaVWMore
import Derived.Deep.RegionLawGrows
import Derived.BigQuiet
namespace Go.Proofs.Ytkeadpichlgagaa.Rg
open Go Go.RowKit Go.Proofs.YtkeadpichlgagaaW.PrintLast
set_option linter.unusedVariables false
set_option linter.unusedSimpArgs false
section
variable {P : Program} {ops : Array Oper} {Q : Exit → Act → World → Prop} {md : Region.Mode} {S : World → Prop} {ds : List Nat}
end
end Go.Proofs.Ytkeadpichlgagaa.Rg
namespace Go.Proofs.Ytkeadpichlgagaa.Rg
open Go Go.RowKit Go.Proofs.YtkeadpichlgagaaW.PrintWords Go.Proofs.YtkeadpichlgagaaW.PrintLast
set_option linter.unusedVariables false
set_option linter.unusedSimpArgs false
section
variable {P : Program} {ops : Array Oper} {o : Oper} {a : Act} {Q : Exit → Act → World → Prop} {K : Act → World → Prop}
end
end Go.Proofs.Ytkeadpichlgagaa.Rg
namespace Go.Proofs.Ytkeadpichlgagaa.Rd
open Go Go.RowKit Go.Proofs.YtkeadpichlgagaaW.PrintLast Go.Proofs.Ytkeadpichlgagaa.Rg
set_option linter.unusedVariables false
set_option linter.unusedSimpArgs false
section
variable {P : Program} {ops : Array Oper} {Q : Exit → Act → World → Prop} {md : Region.Mode} {S : World → Prop} {ds : List Nat} {cls : Nat → Nat}
open Go.Proofs.YtkeadpichlgagaaW.PrintWords in
end
end Go.Proofs.Ytkeadpichlgagaa.Rd
