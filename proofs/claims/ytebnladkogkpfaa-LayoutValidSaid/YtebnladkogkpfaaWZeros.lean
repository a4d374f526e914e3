-- What this claim uses of the words that the kit's printer has laid for this seat; wip/tools/prune.py has left out the rest.
import Derived.Test.YtebnladkogkpfaaWApart
import Derived.Test.YtebnladkogkpfaaWArr
namespace Go.Proofs.YtebnladkogkpfaaW.PrintWords
open Go.RowKit
section
variable {P : Program}
end
namespace Kd
section
variable {P : Program} {ops : Array Oper} {rest : List Oper} {o : Oper} {a : Act} {Q : Exit → Act → World → Prop} {Kc : Act → World → Prop} {α : Type}
end
section
variable {α : Type} {d : Kd α} {e : Nat} {w : World} {base : Nat} {ok : Nat → Prop} {v : Value} {xs : List α}
end
section
variable {P : Program} {ops : Array Oper} {rest : List Oper} {o : Oper} {a : Act} {Q : Exit → Act → World → Prop} {Kc : Act → World → Prop} {α : Type}
end
end Kd
end Go.Proofs.YtebnladkogkpfaaW.PrintWords
