/- The law FindWords returns true at every input. Conditions: none beyond the row's own. -/
import Derived.Test.YtnaceobbbfbhhaaRow
import Derived.Test.YtnaceobbbfbhhaaFindWords
namespace Go.Proofs.Ytnaceobbbfbhhaa
open Go.ChangeShapes Go.WideShapes Go.ChangeAt Go.RowKit Go.Joins Go.Deep
open Go.ChangeMaps (open_string shut_string)
set_option linter.unusedVariables false

set_option maxRecDepth 100000 in
theorem findWords_lifted (os : Os) (started : os.Started) (H : Type) (enc : TypeId × Value → H) :
    ReturnsInHanded {} Try.checked os 11 .any (Rows.findWordsSpec.pre6 enc Try.prog Try.f11 [] false) (Rows.findWordsSpec.post enc Try.prog Try.f11 false true false false) :=
  law_change (H := H) (enc := enc) (s := Rows.findWordsSpec) started (tb := 4) (by kernel_rfl) Try.func11 (by kernel_rfl) rfl Try.underlying4 rfl
      (fun ds h => by match ds, h with | [d1, d2, d3], _ => rfl)
      (ChangeSpec.witness6 (enc := enc) (C := Try.checked) false ⟨#[], #[.slice none 0 0, .int .u16 0, .int .u16 0], []⟩ 8 (by kernel_rfl) (by kernel_rfl) (by kernel_rfl) (by kernel_rfl))
      (fun W base args ds before hval0 hA0 hsz0 => by
        have hval : ∀ (j : Nat) t v, Try.f11.params[j]? = some t → args[j]? = some v → Value.okWide Try.prog W .any base t v := hval0
        have hA : DataW.TrodAll enc Try.prog W 0 (fun _ => true) true Try.f11.params.toList args.toList ds before := hA0
        have hsz : (DataW.weightsEach Try.prog Try.f11.params.toList ds).all (· ≤ reachBytes) = true := hsz0
        rw [Try.params11] at hA hval hsz
        clear hA0 hval0 hsz0
        obtain ⟨v0, vs0, d0, ds0, p0, q0, hargs, rfl, rfl, h0, r0⟩ := trodAll_cons hA
        obtain ⟨v1, vs1, d1, ds1, p1, q1, rfl, rfl, rfl, h1, r1⟩ := trodAll_cons r0
        obtain ⟨v2, vs2, d2, ds2, p2, q2, rfl, rfl, rfl, h2, r2⟩ := trodAll_cons r1
        obtain ⟨rfl, rfl, rfl⟩ := trodAll_nil r2
        obtain rfl : args = #[v0, v1, v2] := by cases args; simp_all
        obtain ⟨a0, L0, c0, rfl, hL0⟩ := open_lines (ts := [22, 44, 44]) Try.underlying22 Try.underlying9 (by kernel_rfl) (by kernel_rfl) (hval 0 22 v0 rfl rfl) h0 hsz (j := 0) rfl rfl
        obtain ⟨x1, rfl, rfl, rfl, wx1⟩ := open_int Try.underlying44 (hval 1 44 v1 rfl rfl) h1
        obtain ⟨x2, rfl, rfl, rfl, wx2⟩ := open_int Try.underlying44 (hval 2 44 v2 rfl rfl) h2
        exact findWords_walk a0 c0 L0 x1 x2 W hL0 (Go.bounds_u16 wx1) (Go.bounds_u16 wx2))

theorem findWords_holds : Rows.FindWordsSaid :=
  OpenClaim.holds_of_wide 11 Try.f11 rfl rfl rfl rfl rfl rfl rfl ⟨rfl, rfl, rfl, rfl, rfl⟩ rfl rfl rfl rfl rfl (by kernel_rfl) Try.func11 (by kernel_rfl)
    (of_decide_eq_true (by kernel_rfl)) (by unfold Func.isWrapper; first | (rw [if_pos (by decide +kernel)]; kernel_rfl) | (rw [if_neg (by decide +kernel)]; exact ⟨rfl, rfl⟩))
    (fun os started H enc _ => findWords_lifted os started H enc)
#print axioms findWords_holds
end Go.Proofs.Ytnaceobbbfbhhaa
