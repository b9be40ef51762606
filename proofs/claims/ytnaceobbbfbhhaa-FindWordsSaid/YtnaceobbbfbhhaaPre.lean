/- The contract of strings.HasPrefix. Conditions: lengths that a machine bears. -/
import Derived.Test.YtnaceobbbfbhhaaBase0
namespace Go.Proofs.Ytnaceobbbfbhhaa
open Go.RowKit

/-- Does s begin with t? -/
def preB (s t : ByteArray) : Bool := decide (t.size ≤ s.size) && ((s.extract 0 t.size).toList == t.toList)
set_option maxRecDepth 100000 in
theorem shasp_any (s t : ByteArray) (w : World) (_hs : s.size ≤ 140737488351232) (_ht : t.size ≤ 140737488351232) :
    Calls Try.prog 116 #[.string s, .string t] w fun e w' => e = .returned (.bool (preB s t)) ∧ w = w' := by
  by_cases h : t.size ≤ s.size
  · have hI : ((t.size : Int)) ≤ (s.size : Int) := by omega
    have HY : Hid (preB s t = ((s.extract 0 t.size).toList == t.toList)) := Lib.hid (by rw [preB, decide_eq_true h, Bool.true_and])
    go_enter Try.func116, Try.ntmps116
    go_wp2
    go_ret
    exact ⟨ret_bool (by rw [HY.out]), rfl⟩
  · have hI : ¬ ((t.size : Int)) ≤ (s.size : Int) := by omega
    have hd : decide (t.size ≤ s.size) = false := decide_eq_false h
    go_enter Try.func116, Try.ntmps116
    go_wp2
    go_ret
    exact ⟨ret_bool (by simp [preB, h]), rfl⟩
theorem hasp_any (s t : ByteArray) (w : World) (hs : s.size ≤ 140737488351232) (ht : t.size ≤ 140737488351232) :
    Calls Try.prog 80 #[.string s, .string t] w fun e w' => e = .returned (.bool (preB s t)) ∧ w = w' := by
  go_enter Try.func80, Try.ntmps80
  go_wp2_with (go_at_call 116; refine (shasp_any _ _ _ hs ht).mono ?_; rintro e w1 ⟨rfl, rfl⟩)
  go_ret
  exact ⟨rfl, rfl⟩
end Go.Proofs.Ytnaceobbbfbhhaa
