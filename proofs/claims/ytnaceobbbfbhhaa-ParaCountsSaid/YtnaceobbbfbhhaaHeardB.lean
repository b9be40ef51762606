/- Pairs that an iterator tells. Conditions: none. -/
import Derived.Test.YtnaceobbbfbhhaaRuns
import Derived.Test.YtnaceobbbfbhhaaQuoteP
namespace Go.Proofs.Ytnaceobbbfbhhaa
open Go.RowKit Go.Shelf

theorem infoRun : (Try.prog.info? 86).map (fun i => (i.zero, i.size, i.bytes)) = some (some (.agg #[.int .i64 0, .int .i64 0]), 2, 16) := by kernel_rfl
/-- The pairs that came. -/
abbrev vals {m : Nat} (pre : List (Ivl m)) : List (Nat × Nat) := pre.map Subtype.val

end Go.Proofs.Ytnaceobbbfbhhaa
