/- Two ranges that touch have what the one over both has. Conditions: none beyond the row's own. -/
import Derived.Test.YtipdiennpijfiaaRow
import Derived.Test.YtipdiennpijfiaaSpanPartsW
namespace Go.Proofs.Ytipdiennpijfiaa
open Go.ChangeShapes Go.WideShapes Go.ChangeAt Go.RowKit Go.Joins Go.Deep
open Go.ChangeMaps (open_string shut_string)
set_option linter.unusedVariables false

set_option maxRecDepth 100000 in
theorem spanParts_lifted (os : Os) (started : os.Started) (H : Type) (enc : TypeId × Value → H) :
    ReturnsInHanded {} Try.checked os 3 .any (Rows.spanPartsSpec.pre6 enc Try.prog Try.f3 [] false) (Rows.spanPartsSpec.post enc Try.prog Try.f3 false true false false) :=
  law_change (H := H) (enc := enc) (s := Rows.spanPartsSpec) started (tb := 4) (by kernel_rfl) Try.func3 (by kernel_rfl) rfl Try.underlying4 rfl
      (fun ds h => by match ds, h with | [d1, d2, d3, d4, d5, d6, d7], _ => rfl)
      (ChangeSpec.witness6 (enc := enc) (C := Try.checked) false ⟨#[], #[.slice none 0 0, .int .u16 0, .int .u16 0, .int .u16 0, .int .u16 0, .int .u16 0, .int .u16 0], []⟩ 8 (by kernel_rfl) (by kernel_rfl) (by kernel_rfl) (by kernel_rfl))
      (fun W base args ds before hval0 hA0 hsz0 => by
        have hval : ∀ (j : Nat) t v, Try.f3.params[j]? = some t → args[j]? = some v → Value.okWide Try.prog W .any base t v := hval0
        have hA : DataW.TrodAll enc Try.prog W 0 (fun _ => true) true Try.f3.params.toList args.toList ds before := hA0
        have hsz : (DataW.weightsEach Try.prog Try.f3.params.toList ds).all (· ≤ reachBytes) = true := hsz0
        rw [Try.params3] at hA hval hsz
        clear hA0 hval0 hsz0
        obtain ⟨v0, vs0, d0, ds0, p0, q0, hargs, rfl, rfl, h0, r0⟩ := trodAll_cons hA
        obtain ⟨v1, vs1, d1, ds1, p1, q1, rfl, rfl, rfl, h1, r1⟩ := trodAll_cons r0
        obtain ⟨v2, vs2, d2, ds2, p2, q2, rfl, rfl, rfl, h2, r2⟩ := trodAll_cons r1
        obtain ⟨v3, vs3, d3, ds3, p3, q3, rfl, rfl, rfl, h3, r3⟩ := trodAll_cons r2
        obtain ⟨v4, vs4, d4, ds4, p4, q4, rfl, rfl, rfl, h4, r4⟩ := trodAll_cons r3
        obtain ⟨v5, vs5, d5, ds5, p5, q5, rfl, rfl, rfl, h5, r5⟩ := trodAll_cons r4
        obtain ⟨v6, vs6, d6, ds6, p6, q6, rfl, rfl, rfl, h6, r6⟩ := trodAll_cons r5
        obtain ⟨rfl, rfl, rfl⟩ := trodAll_nil r6
        obtain rfl : args = #[v0, v1, v2, v3, v4, v5, v6] := by cases args; simp_all
        obtain ⟨a0, L0, c0, rfl, hL0⟩ := open_lines (ts := [22, 23, 23, 23, 23, 23, 23]) Try.underlying22 Try.underlying9 (by kernel_rfl) (by kernel_rfl) (hval 0 22 v0 rfl rfl) h0 hsz (j := 0) rfl rfl
        obtain ⟨x1, rfl, rfl, rfl, wx1⟩ := open_int Try.underlying23 (hval 1 23 v1 rfl rfl) h1
        obtain ⟨x2, rfl, rfl, rfl, wx2⟩ := open_int Try.underlying23 (hval 2 23 v2 rfl rfl) h2
        obtain ⟨x3, rfl, rfl, rfl, wx3⟩ := open_int Try.underlying23 (hval 3 23 v3 rfl rfl) h3
        obtain ⟨x4, rfl, rfl, rfl, wx4⟩ := open_int Try.underlying23 (hval 4 23 v4 rfl rfl) h4
        obtain ⟨x5, rfl, rfl, rfl, wx5⟩ := open_int Try.underlying23 (hval 5 23 v5 rfl rfl) h5
        obtain ⟨x6, rfl, rfl, rfl, wx6⟩ := open_int Try.underlying23 (hval 6 23 v6 rfl rfl) h6
        exact spanParts_walk a0 c0 L0 x1 x2 x3 x4 x5 x6 W hL0 (Go.bounds_u16 wx1) (Go.bounds_u16 wx2) (Go.bounds_u16 wx3) (Go.bounds_u16 wx4) (Go.bounds_u16 wx5) (Go.bounds_u16 wx6))

theorem spanParts_holds : Rows.SpanPartsSaid :=
  OpenClaim.holds_of_wide 3 Try.f3 rfl rfl rfl rfl rfl rfl rfl ⟨rfl, rfl, rfl, rfl, rfl⟩ rfl rfl rfl rfl rfl (by kernel_rfl) Try.func3 (by kernel_rfl)
    (of_decide_eq_true (by kernel_rfl)) (by unfold Func.isWrapper; first | (rw [if_pos (by decide +kernel)]; kernel_rfl) | (rw [if_neg (by decide +kernel)]; exact ⟨rfl, rfl⟩))
    (fun os started H enc _ => spanParts_lifted os started H enc)
#print axioms spanParts_holds
end Go.Proofs.Ytipdiennpijfiaa
