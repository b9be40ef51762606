/- The law SpanOrders returns true at every two places. Conditions: none beyond the row's own. -/
import Derived.Test.YtjkilpnbaaiglaaRow
import Derived.Test.YtjkilpnbaaiglaaSpanLaws
namespace Go.Proofs.Ytjkilpnbaaiglaa
open Go.ChangeShapes Go.WideShapes Go.ChangeAt Go.RowKit Go.Joins Go.Deep
open Go.ChangeMaps (open_string shut_string)
set_option linter.unusedVariables false

set_option maxRecDepth 100000 in
theorem spanOrders_lifted (os : Os) (started : os.Started) (H : Type) (enc : TypeId × Value → H) :
    ReturnsInHanded {} Try.checked os 8 .any (Rows.spanOrdersSpec.pre6 enc Try.prog Try.f8 [] false) (Rows.spanOrdersSpec.post enc Try.prog Try.f8 false true false false) :=
  law_change (H := H) (enc := enc) (s := Rows.spanOrdersSpec) started (tb := 4) (by kernel_rfl) Try.func8 (by kernel_rfl) rfl Try.underlying4 rfl
      (fun ds h => by match ds, h with | [d1, d2, d3], _ => rfl)
      (ChangeSpec.witness6 (enc := enc) (C := Try.checked) false ⟨#[], #[.agg #[.int .i64 0, .int .i64 0], .agg #[.int .i64 0, .int .i64 0], .bool false], []⟩ 8 (by kernel_rfl) (by kernel_rfl) (by kernel_rfl) (by kernel_rfl))
      (fun W base args ds before hval0 hA0 hsz0 => by
        have hval : ∀ (j : Nat) t v, Try.f8.params[j]? = some t → args[j]? = some v → Value.okWide Try.prog W .any base t v := hval0
        have hA : DataW.TrodAll enc Try.prog W 0 (fun _ => true) true Try.f8.params.toList args.toList ds before := hA0
        have hsz : (DataW.weightsEach Try.prog Try.f8.params.toList ds).all (· ≤ reachBytes) = true := hsz0
        rw [Try.params8] at hA hval hsz
        clear hA0 hval0 hsz0
        obtain ⟨v0, vs0, d0, ds0, p0, q0, hargs, rfl, rfl, h0, r0⟩ := trodAll_cons hA
        obtain ⟨v1, vs1, d1, ds1, p1, q1, rfl, rfl, rfl, h1, r1⟩ := trodAll_cons r0
        obtain ⟨v2, vs2, d2, ds2, p2, q2, rfl, rfl, rfl, h2, r2⟩ := trodAll_cons r1
        obtain ⟨rfl, rfl, rfl⟩ := trodAll_nil r2
        obtain rfl : args = #[v0, v1, v2] := by cases args; simp_all
        obtain ⟨x0, y0, rfl, wx0, wy0⟩ := open_pos (e := 3) Try.underlying28 (by kernel_rfl) (by kernel_rfl) rfl rfl Try.underlying3 (hval 0 28 v0 rfl rfl) h0
        obtain ⟨x1, y1, rfl, wx1, wy1⟩ := open_pos (e := 3) Try.underlying28 (by kernel_rfl) (by kernel_rfl) rfl rfl Try.underlying3 (hval 1 28 v1 rfl rfl) h1
        obtain ⟨x2, rfl, rfl, rfl⟩ := open_bool Try.underlying4 (hval 2 4 v2 rfl rfl) h2
        exact spanOrders_walk x0 y0 x1 y1 x2 W wx0 wy0 wx1 wy1)

theorem spanOrders_holds : Rows.SpanOrdersSaid :=
  OpenClaim.holds_of_wide 8 Try.f8 rfl rfl rfl rfl rfl rfl rfl ⟨rfl, rfl, rfl, rfl, rfl⟩ rfl rfl rfl rfl rfl (by kernel_rfl) Try.func8 (by kernel_rfl)
    (of_decide_eq_true (by kernel_rfl)) (by unfold Func.isWrapper; first | (rw [if_pos (by decide +kernel)]; kernel_rfl) | (rw [if_neg (by decide +kernel)]; exact ⟨rfl, rfl⟩))
    (fun os started H enc _ => spanOrders_lifted os started H enc)
#print axioms spanOrders_holds
end Go.Proofs.Ytjkilpnbaaiglaa
