/- The law SpanWhole returns true at every text. Conditions: none beyond the row's own. -/
import Derived.Test.YtjkilpnbaaiglaaRow
import Derived.Test.YtjkilpnbaaiglaaSpanLaws
namespace Go.Proofs.Ytjkilpnbaaiglaa
open Go.ChangeShapes Go.WideShapes Go.ChangeAt Go.RowKit Go.Joins Go.Deep
open Go.ChangeMaps (open_string shut_string)
set_option linter.unusedVariables false

set_option maxRecDepth 100000 in
theorem spanWhole_lifted (os : Os) (started : os.Started) (H : Type) (enc : TypeId × Value → H) :
    ReturnsInHanded {} Try.checked os 10 .any (Rows.spanWholeSpec.pre6 enc Try.prog Try.f10 [] false) (Rows.spanWholeSpec.post enc Try.prog Try.f10 false true false false) :=
  law_change (H := H) (enc := enc) (s := Rows.spanWholeSpec) started (tb := 4) (by kernel_rfl) Try.func10 (by kernel_rfl) rfl Try.underlying4 rfl
      (fun ds h => by match ds, h with | [d], _ => rfl)
      (ChangeSpec.witness6 (enc := enc) (C := Try.checked) false ⟨#[], #[.slice none 0 0], []⟩ 8 (by kernel_rfl) (by kernel_rfl) (by kernel_rfl) (by kernel_rfl))
      (fun W base args ds before hval0 hA0 hsz0 => by
        have hval : ∀ (j : Nat) t v, Try.f10.params[j]? = some t → args[j]? = some v → Value.okWide Try.prog W .any base t v := hval0
        have hA : DataW.TrodAll enc Try.prog W 0 (fun _ => true) true Try.f10.params.toList args.toList ds before := hA0
        have hsz : (DataW.weightsEach Try.prog Try.f10.params.toList ds).all (· ≤ reachBytes) = true := hsz0
        rw [Try.params10] at hA hval hsz
        clear hA0 hval0 hsz0
        obtain ⟨v0, vs0, d0, ds0, p0, q0, hargs, rfl, rfl, h0, r0⟩ := trodAll_cons hA
        obtain ⟨rfl, rfl, rfl⟩ := trodAll_nil r0
        obtain rfl : args = #[v0] := by cases args; simp_all
        obtain ⟨a0, L0, c0, rfl, hL0⟩ := open_lines (ts := [26]) Try.underlying26 Try.underlying9 (by kernel_rfl) (by kernel_rfl) (hval 0 26 v0 rfl rfl) h0 hsz (j := 0) rfl rfl
        exact spanWhole_walk a0 c0 L0 W hL0)

theorem spanWhole_holds : Rows.SpanWholeSaid :=
  OpenClaim.holds_of_wide 10 Try.f10 rfl rfl rfl rfl rfl rfl rfl ⟨rfl, rfl, rfl, rfl, rfl⟩ rfl rfl rfl rfl rfl (by kernel_rfl) Try.func10 (by kernel_rfl)
    (of_decide_eq_true (by kernel_rfl)) (by unfold Func.isWrapper; first | (rw [if_pos (by decide +kernel)]; kernel_rfl) | (rw [if_neg (by decide +kernel)]; exact ⟨rfl, rfl⟩))
    (fun os started H enc _ => spanWhole_lifted os started H enc)
#print axioms spanWhole_holds
end Go.Proofs.Ytjkilpnbaaiglaa
