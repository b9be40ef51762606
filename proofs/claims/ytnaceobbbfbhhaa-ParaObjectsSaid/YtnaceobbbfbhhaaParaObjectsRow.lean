/- The paragraphs and the sentence at any place are the document's ranges, by any count, or none. Conditions: none beyond the row's own. -/
import Derived.Test.YtnaceobbbfbhhaaRow
import Derived.Test.YtnaceobbbfbhhaaParaObjects
namespace Go.Proofs.Ytnaceobbbfbhhaa
open Go.ChangeShapes Go.WideShapes Go.ChangeAt Go.RowKit Go.Joins Go.Deep
open Go.ChangeMaps (open_string shut_string)
set_option linter.unusedVariables false

set_option maxRecDepth 100000 in
theorem paraObjects_lifted (os : Os) (started : os.Started) (H : Type) (enc : TypeId × Value → H) :
    ReturnsInHanded {} Try.checked os 18 .any (Rows.paraObjectsSpec.pre6 enc Try.prog Try.f18 [] false) (Rows.paraObjectsSpec.post enc Try.prog Try.f18 false true false false) :=
  law_change (H := H) (enc := enc) (s := Rows.paraObjectsSpec) started (tb := 4) (by kernel_rfl) Try.func18 (by kernel_rfl) rfl Try.underlying4 rfl
      (fun ds h => by match ds, h with | [d1, d2, d3, d4, d5], _ => rfl)
      (ChangeSpec.witness6 (enc := enc) (C := Try.checked) false ⟨#[], #[.slice none 0 0, .agg #[.int .i64 0, .int .i64 0], .int .u16 0, .int .u16 0, .int .i64 0], []⟩ 8 (by kernel_rfl) (by kernel_rfl) (by kernel_rfl) (by kernel_rfl))
      (fun W base args ds before hval0 hA0 hsz0 => by
        have hval : ∀ (j : Nat) t v, Try.f18.params[j]? = some t → args[j]? = some v → Value.okWide Try.prog W .any base t v := hval0
        have hA : DataW.TrodAll enc Try.prog W 0 (fun _ => true) true Try.f18.params.toList args.toList ds before := hA0
        have hsz : (DataW.weightsEach Try.prog Try.f18.params.toList ds).all (· ≤ reachBytes) = true := hsz0
        rw [Try.params18] at hA hval hsz
        clear hA0 hval0 hsz0
        obtain ⟨v0, vs0, d0, ds0, p0, q0, hargs, rfl, rfl, h0, r0⟩ := trodAll_cons hA
        obtain ⟨v1, vs1, d1, ds1, p1, q1, rfl, rfl, rfl, h1, r1⟩ := trodAll_cons r0
        obtain ⟨v2, vs2, d2, ds2, p2, q2, rfl, rfl, rfl, h2, r2⟩ := trodAll_cons r1
        obtain ⟨v3, vs3, d3, ds3, p3, q3, rfl, rfl, rfl, h3, r3⟩ := trodAll_cons r2
        obtain ⟨v4, vs4, d4, ds4, p4, q4, rfl, rfl, rfl, h4, r4⟩ := trodAll_cons r3
        obtain ⟨rfl, rfl, rfl⟩ := trodAll_nil r4
        obtain rfl : args = #[v0, v1, v2, v3, v4] := by cases args; simp_all
        obtain ⟨a0, L0, c0, rfl, hL0⟩ := open_lines (ts := [22, 46, 44, 44, 3]) Try.underlying22 Try.underlying9 (by kernel_rfl) (by kernel_rfl) (hval 0 22 v0 rfl rfl) h0 hsz (j := 0) rfl rfl
        obtain ⟨x1, y1, rfl, wx1, wy1⟩ := open_pos (e := 3) Try.underlying46 (by kernel_rfl) (by kernel_rfl) rfl rfl Try.underlying3 (hval 1 46 v1 rfl rfl) h1
        obtain ⟨x2, rfl, rfl, rfl, wx2⟩ := open_int Try.underlying44 (hval 2 44 v2 rfl rfl) h2
        obtain ⟨x3, rfl, rfl, rfl, wx3⟩ := open_int Try.underlying44 (hval 3 44 v3 rfl rfl) h3
        obtain ⟨x4, rfl, rfl, rfl, wx4⟩ := open_int Try.underlying3 (hval 4 3 v4 rfl rfl) h4
        exact paraObjects_walk a0 c0 L0 x1 y1 x2 x3 x4 W hL0 (Go.bounds_u16 wx2) (Go.bounds_u16 wx3) wx4)

theorem paraObjects_holds : Rows.ParaObjectsSaid :=
  OpenClaim.holds_of_wide 18 Try.f18 rfl rfl rfl rfl rfl rfl rfl ⟨rfl, rfl, rfl, rfl, rfl⟩ rfl rfl rfl rfl rfl (by kernel_rfl) Try.func18 (by kernel_rfl)
    (of_decide_eq_true (by kernel_rfl)) (by unfold Func.isWrapper; first | (rw [if_pos (by decide +kernel)]; kernel_rfl) | (rw [if_neg (by decide +kernel)]; exact ⟨rfl, rfl⟩))
    (fun os started H enc _ => paraObjects_lifted os started H enc)
#print axioms paraObjects_holds
end Go.Proofs.Ytnaceobbbfbhhaa
