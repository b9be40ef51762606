/- Brackets in brackets, however deep, are matched and enclosed as they should be. Conditions: none beyond the row's own. -/
import Derived.Test.YtlbbgocggifjaaaRow
import Derived.Test.YtlbbgocggifjaaaPairDeep
import Derived.Test.YtlbbgocggifjaaaOpenU8
namespace Go.Proofs.Ytlbbgocggifjaaa
open Go.ChangeShapes Go.WideShapes Go.ChangeAt Go.RowKit Go.Joins Go.Deep
open Go.ChangeMaps (open_string shut_string)
set_option linter.unusedVariables false

set_option maxRecDepth 100000 in
theorem pairDeep_lifted (os : Os) (started : os.Started) (H : Type) (enc : TypeId × Value → H) :
    ReturnsInHanded {} Try.checked os 10 .any (Rows.pairDeepSpec.pre6 enc Try.prog Try.f10 [] false) (Rows.pairDeepSpec.post enc Try.prog Try.f10 false true false false) :=
  law_change (H := H) (enc := enc) (s := Rows.pairDeepSpec) started (tb := 4) (by kernel_rfl) Try.func10 (by kernel_rfl) rfl Try.underlying4 rfl
      (fun ds h => by match ds, h with | [d1, d2], _ => rfl)
      (ChangeSpec.witness6 (enc := enc) (C := Try.checked) false ⟨#[], #[.slice none 0 0, .int .u8 0], []⟩ 8 (by kernel_rfl) (by kernel_rfl) (by kernel_rfl) (by kernel_rfl))
      (fun W base args ds before hval0 hA0 hsz0 => by
        have hval : ∀ (j : Nat) t v, Try.f10.params[j]? = some t → args[j]? = some v → Value.okWide Try.prog W .any base t v := hval0
        have hA : DataW.TrodAll enc Try.prog W 0 (fun _ => true) true Try.f10.params.toList args.toList ds before := hA0
        have hsz : (DataW.weightsEach Try.prog Try.f10.params.toList ds).all (· ≤ reachBytes) = true := hsz0
        rw [Try.params10] at hA hval hsz
        clear hA0 hval0 hsz0
        obtain ⟨v0, vs0, d0, ds0, p0, q0, hargs, rfl, rfl, h0, r0⟩ := trodAll_cons hA
        obtain ⟨v1, vs1, d1, ds1, p1, q1, rfl, rfl, rfl, h1, r1⟩ := trodAll_cons r0
        obtain ⟨rfl, rfl, rfl⟩ := trodAll_nil r1
        obtain rfl : args = #[v0, v1] := by cases args; simp_all
        obtain ⟨a0, K0, c0, rfl, hK0, hz0⟩ := open_u8s (ts := [44, 5]) (by kernel_rfl) (by kernel_rfl) (hval 0 44 v0 rfl rfl) h0 hsz (j := 0) rfl rfl
        obtain ⟨x1, rfl, rfl, rfl, wx1⟩ := open_int Try.underlying5 (hval 1 5 v1 rfl rfl) h1
        exact pairDeep_walk a0 c0 K0 x1 W hK0 hz0 (Go.bounds_u8 wx1))

theorem pairDeep_named : Try.pinned.checked.prog.funcNamed Rows.pairDeepRow.func = some 10 := by kernel_rfl
theorem pairDeep_facts : joinedFacts Try.pinned.checked.prog 10 Try.f10 Rows.pairDeepSpec Rows.pairDeepRow = true := by kernel_rfl
theorem pairDeep_holds : Rows.PairDeepSaid :=
  OpenClaim.holds_of_wide 10 Try.f10 rfl rfl rfl rfl rfl rfl rfl ⟨rfl, rfl, rfl, rfl, rfl⟩ rfl rfl rfl rfl rfl pairDeep_named Try.func10 pairDeep_facts
    (of_decide_eq_true (by kernel_rfl)) (by unfold Func.isWrapper; first | (rw [if_pos (by decide +kernel)]; kernel_rfl) | (rw [if_neg (by decide +kernel)]; exact ⟨rfl, rfl⟩))
    (fun os started H enc _ => pairDeep_lifted os started H enc)
#print axioms pairDeep_holds
end Go.Proofs.Ytlbbgocggifjaaa
