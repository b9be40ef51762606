/- Any changes, raw or such as fit, come to just the lines that the document says, or to none, and fit the limit or not as it says. Conditions: none beyond the row's own. -/
import Derived.Test.YtnaceobbbfbhhaaRow
import Derived.Test.YtnaceobbbfbhhaaChangeApplies
import Derived.Test.YtnaceobbbfbhhaaOpenChg
namespace Go.Proofs.Ytnaceobbbfbhhaa
open Go.ChangeShapes Go.WideShapes Go.ChangeAt Go.RowKit Go.Joins Go.Deep
open Go.ChangeMaps (open_string shut_string)
set_option linter.unusedVariables false

set_option maxRecDepth 100000 in
theorem changeApplies_lifted (os : Os) (started : os.Started) (H : Type) (enc : TypeId × Value → H) :
    ReturnsInHanded {} Try.checked os 3 .any (Rows.changeAppliesSpec.pre6 enc Try.prog Try.f3 [] false) (Rows.changeAppliesSpec.post enc Try.prog Try.f3 false true false false) :=
  law_change (H := H) (enc := enc) (s := Rows.changeAppliesSpec) started (tb := 4) (by kernel_rfl) Try.func3 (by kernel_rfl) rfl Try.underlying4 rfl
      (fun ds h => by match ds, h with | [d1, d2], _ => rfl)
      (ChangeSpec.witness6 (enc := enc) (C := Try.checked) false ⟨#[], #[.slice none 0 0, .slice none 0 0], []⟩ 8 (by kernel_rfl) (by kernel_rfl) (by kernel_rfl) (by kernel_rfl))
      (fun W base args ds before hval0 hA0 hsz0 => by
        have hval : ∀ (j : Nat) t v, Try.f3.params[j]? = some t → args[j]? = some v → Value.okWide Try.prog W .any base t v := hval0
        have hA : DataW.TrodAll enc Try.prog W 0 (fun _ => true) true Try.f3.params.toList args.toList ds before := hA0
        have hsz : (DataW.weightsEach Try.prog Try.f3.params.toList ds).all (· ≤ reachBytes) = true := hsz0
        rw [Try.params3] at hA hval hsz
        clear hA0 hval0 hsz0
        obtain ⟨v0, vs0, d0, ds0, p0, q0, hargs, rfl, rfl, h0, r0⟩ := trodAll_cons hA
        obtain ⟨v1, vs1, d1, ds1, p1, q1, rfl, rfl, rfl, h1, r1⟩ := trodAll_cons r0
        obtain ⟨rfl, rfl, rfl⟩ := trodAll_nil r1
        obtain rfl : args = #[v0, v1] := by cases args; simp_all
        obtain ⟨a0, L0, c0, rfl, hL0, hc0⟩ := open_linesC (ts := [22, 23]) (by kernel_rfl) (by kernel_rfl) (hval 0 22 v0 rfl rfl) h0 hsz (j := 0) rfl rfl
        obtain ⟨a1, cs1, c1, rfl, hC1, hcc1, hw1, hln1⟩ := open_changes (ts := [22, 23]) (by kernel_rfl) (by kernel_rfl) (by kernel_rfl) (by kernel_rfl) (by kernel_rfl) (by kernel_rfl) (hval 1 23 v1 rfl rfl) h1 hsz (j := 1) rfl rfl
        exact changeApplies_walk a0 c0 L0 a1 c1 cs1 W hL0 hc0 hC1 hln1 hw1)

theorem changeApplies_holds : Rows.ChangeAppliesSaid :=
  OpenClaim.holds_of_wide 3 Try.f3 rfl rfl rfl rfl rfl rfl rfl ⟨rfl, rfl, rfl, rfl, rfl⟩ rfl rfl rfl rfl rfl (by kernel_rfl) Try.func3 (by kernel_rfl)
    (of_decide_eq_true (by kernel_rfl)) (by unfold Func.isWrapper; first | (rw [if_pos (by decide +kernel)]; kernel_rfl) | (rw [if_neg (by decide +kernel)]; exact ⟨rfl, rfl⟩))
    (fun os started H enc _ => changeApplies_lifted os started H enc)
#print axioms changeApplies_holds
end Go.Proofs.Ytnaceobbbfbhhaa
