-- What this claim uses of the words that the kit's printer has laid for this seat; wip/tools/prune.py has left out the rest.
import Derived.Test.YtebnladkogkpfaaWWords
import Derived.Test.YtebnladkogkpfaaWLast
namespace Go.Proofs.YtebnladkogkpfaaW.PrintWords
open Go.RowKit
namespace Kd
section
variable {α : Type} {d : Kd α} {e base g o n cap : Nat} {ok okp : Nat → Prop} {w W : World} {v : Value} {xs : List α}
end
section
variable {α : Type} {enc : α → Value} {h1 : ∀ x, (enc x).oneCell' = true} {e base g o n cap : Nat} {ok : Nat → Prop} {W : World} {xs : List α}
end
end Kd
end Go.Proofs.YtebnladkogkpfaaW.PrintWords
