/- The contract of foolscaplaw5.known: it returns true. Conditions: none. -/
import Derived.Test.YtjkilpnbaaiglaaClamp
namespace Go.Proofs.Ytjkilpnbaaiglaa
open Go.RowKit

set_option maxHeartbeats 1000000 in
theorem known5_any (w : World) : Calls Try.prog 15 #[] w fun e w' => e = .returned (.bool true) ∧ Below w.heap.size w w' := by
  have e1 : firstL [32, 32, 97] = 2 := by decide
  have e2 : ofC 97 false = 1 := by decide
  have e3 : ofC 43 false = 2 := by decide
  have e4 : ofC 43 true = 1 := by decide
  have e5 : ofC 32 true = 0 := by decide
  have e6 : clampP [⟨#[97, 98]⟩] 4 9 false = (0, 1) := by decide
  have e7 : total [⟨#[97, 98]⟩] = 2 := by decide
  have e8 : sameB [⟨#[97]⟩] [⟨#[98]⟩] = false := by decide
  go_enter Try.func15, Try.ntmps15
  go_wp2_with (first
    | (go_at_call 18; refine (first_any _ _ (by decide)).mono ?_; rintro e w1 ⟨rfl, rfl⟩)
    | (go_at_call 16; refine (of_any _ _ _).mono ?_; rintro e w1 ⟨rfl, rfl⟩)
    | (go_at_call 21; refine (clamp_any _ _ [⟨#[97, 98]⟩] _ _ _ _ (lines_new _ _ _ (by decide) (by decide) rfl rfl)).mono ?_; rintro e w1 ⟨rfl, hbl⟩; obtain ⟨x, rfl⟩ := ovr_of_below hbl; clear hbl)
    | (go_at_call 23; refine (size_any _ _ [⟨#[97, 98]⟩] _ (lines_new _ _ _ (by decide) (by decide) rfl (by simp [size_ovr])) (by decide) (by decide)).mono ?_; rintro e w1 ⟨rfl, rfl⟩)
    | (go_at_call 25; refine (same_any _ _ _ _ [⟨#[97]⟩] [⟨#[98]⟩] _ (LinesAt.alloc (lines_new _ _ _ (by decide) (by decide) rfl (by simp [size_ovr])) _) (lines_new _ _ _ (by decide) (by decide) rfl (by simp [size_ovr]))).mono ?_; rintro e w1 ⟨rfl, hbl⟩; obtain ⟨x, rfl⟩ := ovr_of_below hbl; clear hbl))
  go_ret
  exact ⟨rfl, by (repeat (first | exact Below.refl _ _ | refine Below.alloc ?_ (by first | exact Nat.le_refl _ | (simp [size_ovr]; done) | (simp [size_ovr]; omega)) _ | refine below_ovr_of ?_ | refine drew_below ?_ _ | refine Below.drew ?_ | refine Below.setCell ?_ (by first | exact Nat.le_refl _ | (simp [size_ovr]; done) | (simp [size_ovr]; omega)) _ | assumption))⟩
end Go.Proofs.Ytjkilpnbaaiglaa
