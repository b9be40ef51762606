/- The walks of the laws of layer 5. Conditions: none beyond what each says. -/
import Derived.Test.YtjkilpnbaaiglaaKnown5
namespace Go.Proofs.Ytjkilpnbaaiglaa
open Go.RowKit

theorem size_lit2 (a b : UInt8) (s : ByteArray) : (({ data := #[a, b] } : ByteArray) ++ s).size = s.size + 2 := by
  rw [ByteArray.size_append]; show 2 + s.size = _; omega

set_option maxHeartbeats 1000000 in
theorem classTells_walk (c : Int) (s : ByteArray) (W : World) (_hc : 0 ≤ c ∧ c ≤ 255) (hs : s.size ≤ 140737488351232) :
    Calls Try.prog 3 #[.int .u8 c, .string s] W fun e W' => e = .returned (.bool true) ∧ Below W.heap.size W W' := by
  by_cases h3 : s.size ≤ 300
  · have h3' : (s.size : Int) ≤ 300 := by omega
    go_enter Try.func3, Try.ntmps3
    go_wp2_with (first
      | (go_at_call 15; refine (known5_any _).mono ?_; rintro e w1 ⟨rfl, hbl⟩; obtain ⟨x, rfl⟩ := ovr_of_below hbl; clear hbl)
      | (go_at_call 16; refine (of_any _ _ _).mono ?_; rintro e w1 ⟨rfl, rfl⟩)
      | (go_at_call 17; refine (rof_any _ _ _).mono ?_; rintro e w1 ⟨rfl, rfl⟩)
      | (go_at_call 18; refine (first_any _ _ ?_).mono ?_; (first | omega | (rw [size_lit2]; omega)); rintro e w1 ⟨rfl, rfl⟩)
      | (go_at_call 19; refine (rfirst_any _ _ ?_).mono ?_; (first | omega | (rw [size_lit2]; omega)); rintro e w1 ⟨rfl, rfl⟩))
    go_ret
    exact ⟨rfl, by (repeat (first | exact Below.refl _ _ | refine Below.alloc ?_ (by first | exact Nat.le_refl _ | (simp [size_ovr]; done) | (simp [size_ovr]; omega)) _ | refine below_ovr_of ?_ | refine drew_below ?_ _ | refine Below.drew ?_ | refine Below.setCell ?_ (by first | exact Nat.le_refl _ | (simp [size_ovr]; done) | (simp [size_ovr]; omega)) _ | assumption))⟩
  · have h3' : (300 : Int) < (s.size : Int) := by omega
    go_enter Try.func3, Try.ntmps3
    go_wp2_with (go_at_call 15; refine (known5_any _).mono ?_; rintro e w1 ⟨rfl, hbl⟩; obtain ⟨x, rfl⟩ := ovr_of_below hbl; clear hbl)
    go_ret
    exact ⟨rfl, by (repeat (first | exact Below.refl _ _ | refine Below.alloc ?_ (by first | exact Nat.le_refl _ | (simp [size_ovr]; done) | (simp [size_ovr]; omega)) _ | refine below_ovr_of ?_ | refine drew_below ?_ _ | refine Below.drew ?_ | refine Below.setCell ?_ (by first | exact Nat.le_refl _ | (simp [size_ovr]; done) | (simp [size_ovr]; omega)) _ | assumption))⟩
end Go.Proofs.Ytjkilpnbaaiglaa
