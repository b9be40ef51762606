/- Sentences are gone through one by one, forwards and back again. Conditions: none beyond the row's own. -/
import Derived.Test.YtnaceobbbfbhhaaRow
import Derived.Test.YtnaceobbbfbhhaaSentOrder
namespace Go.Proofs.Ytnaceobbbfbhhaa
open Go.ChangeShapes Go.WideShapes Go.ChangeAt Go.RowKit Go.Joins Go.Deep
open Go.ChangeMaps (open_string shut_string)
set_option linter.unusedVariables false

set_option maxRecDepth 100000 in
theorem sentOrder_lifted (os : Os) (started : os.Started) (H : Type) (enc : TypeId × Value → H) :
    ReturnsInHanded {} Try.checked os 16 .any (Rows.sentOrderSpec.pre6 enc Try.prog Try.f16 [] false) (Rows.sentOrderSpec.post enc Try.prog Try.f16 false true false false) :=
  law_change (H := H) (enc := enc) (s := Rows.sentOrderSpec) started (tb := 4) (by kernel_rfl) Try.func16 (by kernel_rfl) rfl Try.underlying4 rfl
      (fun ds h => by match ds, h with | [d], _ => rfl)
      (ChangeSpec.witness6 (enc := enc) (C := Try.checked) false ⟨#[], #[.slice none 0 0], []⟩ 8 (by kernel_rfl) (by kernel_rfl) (by kernel_rfl) (by kernel_rfl))
      (fun W base args ds before hval0 hA0 hsz0 => by
        have hval : ∀ (j : Nat) t v, Try.f16.params[j]? = some t → args[j]? = some v → Value.okWide Try.prog W .any base t v := hval0
        have hA : DataW.TrodAll enc Try.prog W 0 (fun _ => true) true Try.f16.params.toList args.toList ds before := hA0
        have hsz : (DataW.weightsEach Try.prog Try.f16.params.toList ds).all (· ≤ reachBytes) = true := hsz0
        rw [Try.params16] at hA hval hsz
        clear hA0 hval0 hsz0
        obtain ⟨v0, vs0, d0, ds0, p0, q0, hargs, rfl, rfl, h0, r0⟩ := trodAll_cons hA
        obtain ⟨rfl, rfl, rfl⟩ := trodAll_nil r0
        obtain rfl : args = #[v0] := by cases args; simp_all
        obtain ⟨a0, L0, c0, rfl, hL0⟩ := open_lines (ts := [22]) Try.underlying22 Try.underlying9 (by kernel_rfl) (by kernel_rfl) (hval 0 22 v0 rfl rfl) h0 hsz (j := 0) rfl rfl
        exact sentOrder_walk a0 c0 L0 W hL0)

theorem sentOrder_holds : Rows.SentOrderSaid :=
  OpenClaim.holds_of_wide 16 Try.f16 rfl rfl rfl rfl rfl rfl rfl ⟨rfl, rfl, rfl, rfl, rfl⟩ rfl rfl rfl rfl rfl (by kernel_rfl) Try.func16 (by kernel_rfl)
    (of_decide_eq_true (by kernel_rfl)) (by unfold Func.isWrapper; first | (rw [if_pos (by decide +kernel)]; kernel_rfl) | (rw [if_neg (by decide +kernel)]; exact ⟨rfl, rfl⟩))
    (fun os started H enc _ => sentOrder_lifted os started H enc)
#print axioms sentOrder_holds
end Go.Proofs.Ytnaceobbbfbhhaa
