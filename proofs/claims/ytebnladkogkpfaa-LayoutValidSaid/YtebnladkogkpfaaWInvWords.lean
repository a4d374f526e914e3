-- What this claim uses of the words that the kit's printer has laid for this seat; wip/tools/prune.py has left out the rest.
import Derived.Test.YtebnladkogkpfaaWInv
import Derived.Test.YtebnladkogkpfaaWFootNe
namespace Go.Proofs.YtebnladkogkpfaaW.PrintWords
open Go.RowKit
end Go.Proofs.YtebnladkogkpfaaW.PrintWords
namespace Go.Proofs.YtebnladkogkpfaaW.PrintLast
section
variable {ops : Array Oper} {a : Act} {o og : Oper} {g : Nat} {t : Tmp} {u : Bool}
end
end Go.Proofs.YtebnladkogkpfaaW.PrintLast
