/- Classes of bytes, as a region that only reads wants them. Conditions: none. -/
import Derived.Test.YtnaceobbbfbhhaaBase0
namespace Go.Proofs.Ytnaceobbbfbhhaa
open Go.RowKit

theorem of_same (c : Int) (big : Bool) (w : World) : Calls Try.prog 92 #[.int .u8 c, .bool big] w fun e w' => e = .returned (.int .i64 (ofC c big)) ∧ w' = w :=
  (of_any c big w).mono fun _ _ ⟨h1, h2⟩ => ⟨h1, h2.symm⟩
theorem rof_same (c : Int) (big : Bool) (w : World) : Calls Try.prog 48 #[.int .u8 c, .bool big] w fun e w' => e = .returned (.int .i64 (ofC c big)) ∧ w' = w :=
  (rof_any c big w).mono fun _ _ ⟨h1, h2⟩ => ⟨h1, h2.symm⟩
end Go.Proofs.Ytnaceobbbfbhhaa
