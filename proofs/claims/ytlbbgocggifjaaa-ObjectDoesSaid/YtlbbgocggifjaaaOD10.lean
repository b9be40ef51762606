/- Several texts in one: ObjectDoesRow. Conditions: none beyond what each says. -/
import Derived.Test.YtlbbgocggifjaaaRow
import Derived.Test.YtlbbgocggifjaaaODF
import Derived.Test.YtlbbgocggifjaaaOD9
namespace Go.Proofs.Ytlbbgocggifjaaa
open Go.ChangeShapes Go.WideShapes Go.ChangeAt Go.RowKit Go.Joins Go.Deep
open Go.ChangeMaps (open_string shut_string)
set_option linter.unusedVariables false

set_option maxRecDepth 100000 in
theorem objectDoes_lifted (os : Os) (started : os.Started) (H : Type) (enc : TypeId × Value → H) :
    ReturnsInHanded {} Try.checked os 19 .any (Rows.objectDoesSpec.pre6 enc Try.prog Try.f19 [] false) (Rows.objectDoesSpec.post enc Try.prog Try.f19 false true false false) :=
  law_change (H := H) (enc := enc) (s := Rows.objectDoesSpec) started (tb := 4) (by kernel_rfl) Try.func19 (by kernel_rfl) rfl Try.underlying4 rfl
      (fun ds h => by match ds, h with | [d1, d2, d3, d4, d5, d6, d7], _ => rfl)
      (ChangeSpec.witness6 (enc := enc) (C := Try.checked) false ⟨#[], #[.slice none 0 0, .agg #[.int .i64 0, .int .i64 0], .int .u16 0, .int .u16 0, .agg #[.int .u8 0, .int .i64 0, .string ByteArray.empty, .string ByteArray.empty, .int .u8 0, .string ByteArray.empty], .int .u8 0, .int .i64 0], []⟩ 8 (by kernel_rfl) (by kernel_rfl) (by kernel_rfl) (by kernel_rfl))
      (fun W base args ds before hval0 hA0 hsz0 => by
        have hval : ∀ (j : Nat) t v, Try.f19.params[j]? = some t → args[j]? = some v → Value.okWide Try.prog W .any base t v := hval0
        have hA : DataW.TrodAll enc Try.prog W 0 (fun _ => true) true Try.f19.params.toList args.toList ds before := hA0
        have hsz : (DataW.weightsEach Try.prog Try.f19.params.toList ds).all (· ≤ reachBytes) = true := hsz0
        rw [Try.params19] at hA hval hsz
        clear hA0 hval0 hsz0
        obtain ⟨v0, vs0, d0, ds0, p0, q0, hargs, rfl, rfl, h0, r0⟩ := trodAll_cons hA
        obtain ⟨v1, vs1, d1, ds1, p1, q1, rfl, rfl, rfl, h1, r1⟩ := trodAll_cons r0
        obtain ⟨v2, vs2, d2, ds2, p2, q2, rfl, rfl, rfl, h2, r2⟩ := trodAll_cons r1
        obtain ⟨v3, vs3, d3, ds3, p3, q3, rfl, rfl, rfl, h3, r3⟩ := trodAll_cons r2
        obtain ⟨v4, vs4, d4, ds4, p4, q4, rfl, rfl, rfl, h4, r4⟩ := trodAll_cons r3
        obtain ⟨v5, vs5, d5, ds5, p5, q5, rfl, rfl, rfl, h5, r5⟩ := trodAll_cons r4
        obtain ⟨v6, vs6, d6, ds6, p6, q6, rfl, rfl, rfl, h6, r6⟩ := trodAll_cons r5
        obtain ⟨rfl, rfl, rfl⟩ := trodAll_nil r6
        obtain rfl : args = #[v0, v1, v2, v3, v4, v5, v6] := by cases args; simp_all
        obtain ⟨a0, L0, c0, rfl, hL0⟩ := open_lines (ts := [22, 29, 41, 41, 95, 5, 3]) Try.underlying22 Try.underlying9 (by kernel_rfl) (by kernel_rfl) (hval 0 22 v0 rfl rfl) h0 hsz (j := 0) rfl rfl
        obtain ⟨x1, y1, rfl, wx1, wy1⟩ := open_pos (e := 3) Try.underlying29 (by kernel_rfl) (by kernel_rfl) rfl rfl Try.underlying3 (hval 1 29 v1 rfl rfl) h1
        obtain ⟨x2, rfl, rfl, rfl, wx2⟩ := open_int Try.underlying41 (hval 2 41 v2 rfl rfl) h2
        obtain ⟨x3, rfl, rfl, rfl, wx3⟩ := open_int Try.underlying41 (hval 3 41 v3 rfl rfl) h3
        obtain ⟨mr4, mn4, mo4, mm4, mg4, mt4, rfl, wc4⟩ := open_cmd (by kernel_rfl) (by kernel_rfl) (by kernel_rfl) (by kernel_rfl) (hval 4 95 v4 rfl rfl) h4
        obtain ⟨x5, rfl, rfl, rfl, wx5⟩ := open_int Try.underlying5 (hval 5 5 v5 rfl rfl) h5
        obtain ⟨x6, rfl, rfl, rfl, wx6⟩ := open_int Try.underlying3 (hval 6 3 v6 rfl rfl) h6
        exact objectDoes_walk a0 c0 L0 x1 y1 x2 x3 mr4 mn4 mo4 mm4 mg4 mt4 x5 x6 W hL0 (Go.bounds_u16 wx2) (Go.bounds_u16 wx3) wc4 (Go.bounds_u8 wx5) wx6)

theorem objectDoes_named : Try.pinned.checked.prog.funcNamed Rows.objectDoesRow.func = some 19 := by kernel_rfl
theorem objectDoes_holds : Rows.ObjectDoesSaid :=
  OpenClaim.holds_of_wide 19 Try.f19 rfl rfl rfl rfl rfl rfl rfl ⟨rfl, rfl, rfl, rfl, rfl⟩ rfl rfl rfl rfl rfl objectDoes_named Try.func19 objectDoes_facts
    (of_decide_eq_true (by kernel_rfl)) (by unfold Func.isWrapper; first | (rw [if_pos (by decide +kernel)]; kernel_rfl) | (rw [if_neg (by decide +kernel)]; exact ⟨rfl, rfl⟩))
    (fun os started H enc _ => objectDoes_lifted os started H enc)
#print axioms objectDoes_holds
end Go.Proofs.Ytlbbgocggifjaaa
