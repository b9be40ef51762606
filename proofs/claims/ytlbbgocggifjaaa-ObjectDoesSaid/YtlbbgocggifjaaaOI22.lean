/- What the walk of a range over a function asks of the wide fence. No program in sight. Conditions: none. -/
import Derived.Test.YtlbbgocggifjaaaOI21
import Derived.Sort.QuietIn
namespace Go.Proofs.Ytlbbgocggifjaaa
open Go.RowKit Go.Shelf

@[go_sem] theorem wide_fn (f : FuncId) : Fence.wide.fn f = True := rfl
@[go_sem] theorem wide_fn_round (l : Nat) (f : FuncId) : (Fence.wide.inRound l).fn f = True := rfl
end Go.Proofs.Ytlbbgocggifjaaa
