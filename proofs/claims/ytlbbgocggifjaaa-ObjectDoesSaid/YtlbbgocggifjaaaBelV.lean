/- A world laid over, below a block. No program in sight. Conditions: none. -/
import Derived.Test.YtlbbgocggifjaaaWorld
namespace Go.Proofs.Ytlbbgocggifjaaa
open Go.RowKit

theorem below_ovr_le {B : Nat} {a w : World} (h : Below B a w) (hB : B ≤ w.heap.size) (x : World) : Below B a (ovr w x) := h.trans ((below_ovr w x).mono hB)
end Go.Proofs.Ytlbbgocggifjaaa
