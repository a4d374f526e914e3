-- What this claim uses of the words that the kit's printer has laid for this seat; wip/tools/prune.py has left out the rest.
import Derived.Test.YtebnladkogkpfaaWTab
namespace Go.Proofs.YtebnladkogkpfaaW.PrintLast
section
variable {P : Program} {ops : Array Oper} {Q : Exit → Act → World → Prop} {md : Region.Mode} {S : World → Prop} {ds : List Nat} {T : Bool × List (List Nat × List Nat)}
end
end Go.Proofs.YtebnladkogkpfaaW.PrintLast
