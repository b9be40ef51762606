/- The law ClassFirst returns true at every line and number of blanks. Conditions: none beyond the row's own. -/
import Derived.Test.YtjkilpnbaaiglaaRow
import Derived.Test.YtjkilpnbaaiglaaClassLaws4
namespace Go.Proofs.Ytjkilpnbaaiglaa
open Go.ChangeShapes Go.WideShapes Go.ChangeAt Go.RowKit Go.Joins Go.Deep
open Go.ChangeMaps (open_string shut_string)
set_option linter.unusedVariables false

set_option maxRecDepth 100000 in
theorem classFirst_lifted (os : Os) (started : os.Started) (H : Type) (enc : TypeId × Value → H) :
    ReturnsInHanded {} Try.checked os 6 .any (Rows.classFirstSpec.pre6 enc Try.prog Try.f6 [] false) (Rows.classFirstSpec.post enc Try.prog Try.f6 false true false false) :=
  law_change (H := H) (enc := enc) (s := Rows.classFirstSpec) started (tb := 4) (by kernel_rfl) Try.func6 (by kernel_rfl) rfl Try.underlying4 rfl
      (fun ds h => by match ds, h with | [d1, d2], _ => rfl)
      (ChangeSpec.witness6 (enc := enc) (C := Try.checked) false ⟨#[], #[.int .u8 0, .string ByteArray.empty], []⟩ 8 (by kernel_rfl) (by kernel_rfl) (by kernel_rfl) (by kernel_rfl))
      (fun W base args ds before hval0 hA0 hsz0 => by
        have hval : ∀ (j : Nat) t v, Try.f6.params[j]? = some t → args[j]? = some v → Value.okWide Try.prog W .any base t v := hval0
        have hA : DataW.TrodAll enc Try.prog W 0 (fun _ => true) true Try.f6.params.toList args.toList ds before := hA0
        have hsz : (DataW.weightsEach Try.prog Try.f6.params.toList ds).all (· ≤ reachBytes) = true := hsz0
        rw [Try.params6] at hA hval hsz
        clear hA0 hval0 hsz0
        obtain ⟨v0, vs0, d0, ds0, p0, q0, hargs, rfl, rfl, h0, r0⟩ := trodAll_cons hA
        obtain ⟨v1, vs1, d1, ds1, p1, q1, rfl, rfl, rfl, h1, r1⟩ := trodAll_cons r0
        obtain ⟨rfl, rfl, rfl⟩ := trodAll_nil r1
        obtain rfl : args = #[v0, v1] := by cases args; simp_all
        obtain ⟨x0, rfl, rfl, rfl, wx0⟩ := open_int Try.underlying5 (hval 0 5 v0 rfl rfl) h0
        obtain ⟨x1, rfl, rfl, rfl, wx1⟩ := open_string Try.underlying9 (hval 1 9 v1 rfl rfl) h1
        have sx1 : x1.size ≤ 140737488351232 := by have hq := sized_string hsz (j := 1) rfl rfl; rw [list_len'] at hq; simpa [reachBytes] using hq
        exact classFirst_walk x0 x1 W (Go.bounds_u8 wx0) sx1)

theorem classFirst_holds : Rows.ClassFirstSaid :=
  OpenClaim.holds_of_wide 6 Try.f6 rfl rfl rfl rfl rfl rfl rfl ⟨rfl, rfl, rfl, rfl, rfl⟩ rfl rfl rfl rfl rfl (by kernel_rfl) Try.func6 (by kernel_rfl)
    (of_decide_eq_true (by kernel_rfl)) (by unfold Func.isWrapper; first | (rw [if_pos (by decide +kernel)]; kernel_rfl) | (rw [if_neg (by decide +kernel)]; exact ⟨rfl, rfl⟩))
    (fun os started H enc _ => classFirst_lifted os started H enc)
#print axioms classFirst_holds
end Go.Proofs.Ytjkilpnbaaiglaa
