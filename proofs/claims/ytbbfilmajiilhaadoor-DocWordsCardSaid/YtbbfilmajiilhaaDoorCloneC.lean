/- slices.Clone at fields. Condition: no more than a million. -/
import Derived.Test.YtbbfilmajiilhaaDoorBnd0
set_option linter.unusedVariables false
set_option linter.unusedSimpArgs false
namespace Go.Proofs.YtbbfilmajiilhaaDoor
open Go.RowKit Go.Proofs.YtbbfilmajiilhaaDoor.PAll Go.Proofs.YtbbfilmajiilhaaDoorW.PrintWords Go.Proofs.YtbbfilmajiilhaaDoorW.PrintLast Go.Proofs.YtbbfilmajiilhaaDoorW.PrintMore

def api_Field_24.f (l : List S24) : Option (List S24) := if l.length ≤ 1000000 then some l else none

end Go.Proofs.YtbbfilmajiilhaaDoor
