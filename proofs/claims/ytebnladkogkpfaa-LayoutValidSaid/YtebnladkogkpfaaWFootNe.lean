-- What this claim uses of the words that the kit's printer has laid for this seat; wip/tools/prune.py has left out the rest.
import Derived.Test.YtebnladkogkpfaaWN
namespace Go.Proofs.YtebnladkogkpfaaW.PrintWords
open Go.RowKit
namespace Kd
section
variable {α : Type} {d : Kd α} {W : World} {g n : Nat} {S ok : Nat → Prop} {A : Option Addr} {ad : Addr} {xs : List α}
end
end Kd
end Go.Proofs.YtebnladkogkpfaaW.PrintWords
