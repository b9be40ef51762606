/- What a range over a function wants: the kit's laws; a slice of pairs in memory. Conditions: none. -/
import Derived.Test.YtlbbgocggifjaaaBase0
import Derived.RangeFuncNested
import Derived.RangeFuncBound
import Derived.RangeFuncCalls
import Derived.RangeFuncLeaves
import Derived.RangeFuncOne
import Derived.Shelf.Abstract
import Derived.Shelf.RegionOpen
import Derived.WalkKit
import Derived.OwnWalkIn
import Derived.TacticsInMore
import Derived.LoopNIn
import Derived.LoopIn
import Derived.Maps.AppendAt
namespace Go.Proofs.Ytlbbgocggifjaaa
open Go.RowKit Go.Shelf

theorem grown_drew (W : World) : W.grownBy W.drew none := ⟨rfl, rfl, rfl, Nat.le_refl _, fun _ _ _ => rfl⟩
theorem grown_drewN (W : World) (n : Nat) : W.grownBy (W.drewN n) none := ⟨rfl, rfl, rfl, Nat.le_refl _, fun _ _ _ => rfl⟩
theorem cell_put {W : World} {D : Nat} {a : Addr} {v : Value} (h : W.cell? a = some v) (hK : W.heap[D]? = some (.deferred (some []))) : (W.putObj D (.deferred none)).cell? a = some v :=
  cell_kept h (grownBy_putObj' _ D (.deferred none)) (fun r e => by cases e; exact ⟨_, hK, rfl⟩)
theorem name_worldIn {F : Fence} {n : Nat} {P : Program} {c : Code} {Q : Exit → Act → World → Prop} {a : Act} {w : World} (h : ∀ W0, W0 = w → c.wpIn F n P Q a W0) : c.wpIn F n P Q a w := h w rfl
theorem below_put {n₀ : Nat} {w W : World} {D : Nat} (hD : n₀ ≤ D) (hK : W.heap[D]? = some (.deferred (some []))) (h : Below n₀ w W) : Below n₀ w (W.putObj D (.deferred none)) :=
  h.trans (belowK_b (w := { w with heap := Array.replicate n₀ default }) (by simp) W D _ _ (by simpa using hD) hK rfl rfl)
theorem keeps_below {W W' : World} {B : Nat} (h : Below W.heap.size W W') : KeepsFrom B W W' :=
  ⟨h.size, fun k _ _ hk _ => (h.block k (Array.getElem?_eq_some_iff.1 hk).1).trans hk⟩
end Go.Proofs.Ytlbbgocggifjaaa
