/- Layer 6: the chapter's example. Conditions: none. -/
import Derived.Test.YtlbbgocggifjaaaSpan2
import Derived.Test.YtlbbgocggifjaaaStr6
namespace Go.Proofs.Ytlbbgocggifjaaa
open Go.RowKit
set_option maxRecDepth 100000

set_option maxHeartbeats 1000000 in
theorem known6_any (w : World) : Calls Try.prog 21 #[] w fun e w' => e = .returned (.bool true) ∧ Below w.heap.size w w' := by
  have e1 : ordB 1 0 0 0 = (0, 0, 1, 0) := by decide
  have e2 : validB [⟨#[97, 98]⟩, ⟨#[99, 100]⟩] 0 0 1 1 1 = true := by decide
  have e3 : spanT [⟨#[97, 98]⟩, ⟨#[99, 100]⟩] 0 0 1 1 1 = [⟨#[98]⟩, ⟨#[99]⟩] := by decide +kernel
  have e4 : sameB [⟨#[98]⟩, ⟨#[99]⟩] [⟨#[98]⟩, ⟨#[99]⟩] = true := by decide
  have e5 : lessB 0 0 1 0 = true := by decide
  have e6 : validB [⟨#[97, 98]⟩, ⟨#[99, 100]⟩] 0 0 0 5 0 = false := by decide
  go_enter Try.func21, Try.ntmps21
  go_wp2_with fail
  go_at_call 91; refine (order_any _ _ _ _ _).mono ?_; rintro e w1 ⟨rfl, hbl⟩; obtain ⟨x, rfl⟩ := ovr_of_below hbl; clear hbl
  go_wp2_with fail
  have hl : LinesAt (w.alloc (.cells #[.string ⟨#[97, 98]⟩, .string ⟨#[99, 100]⟩] 9)) (some ⟨w.heap.size, 0, none⟩) [⟨#[97, 98]⟩, ⟨#[99, 100]⟩] := lines_new _ _ _ (by decide) (by decide) rfl rfl
  go_at_call 92; refine (valid_any _ _ [⟨#[97, 98]⟩, ⟨#[99, 100]⟩] _ _ _ _ _ _ (by (repeat (first | assumption | refine LinesAt.ovr ?_ _ | refine LinesAt.alloc ?_ _ | refine LinesAt.drewN ?_ _ | refine LinesAt.drew ?_)))).mono ?_; rintro e w1 ⟨rfl, hbl⟩; obtain ⟨x1, rfl⟩ := ovr_of_below hbl; clear hbl
  go_wp2_with fail
  go_at_call 94; refine (spanText_any _ _ [⟨#[97, 98]⟩, ⟨#[99, 100]⟩] _ _ _ _ _ _ (by (repeat (first | assumption | refine LinesAt.ovr ?_ _ | refine LinesAt.alloc ?_ _ | refine LinesAt.drewN ?_ _ | refine LinesAt.drew ?_))) (by decide)).mono ?_; rintro e w1 ⟨a1, c1, rfl, hbl, hl1⟩; obtain ⟨x2, rfl⟩ := ovr_of_below hbl; clear hbl
  rw [e3] at hl1 ⊢
  go_wp2_with fail
  go_at_call 93; refine (strings_any _ _ _ _ [⟨#[98]⟩, ⟨#[99]⟩] [⟨#[98]⟩, ⟨#[99]⟩] _ (by (repeat (first | assumption | refine LinesAt.ovr ?_ _ | refine LinesAt.alloc ?_ _ | refine LinesAt.drewN ?_ _ | refine LinesAt.drew ?_))) (lines_new _ _ _ (by decide) (by decide) rfl (by simp))).mono ?_; rintro e w1 ⟨rfl, hbl⟩; obtain ⟨x3, rfl⟩ := ovr_of_below hbl; clear hbl
  go_wp2_with (first
    | (go_at_call 95; refine (less_any _ _ _ _ _).mono ?_; rintro e w1 ⟨rfl, hbl⟩; obtain ⟨x4, rfl⟩ := ovr_of_below hbl; clear hbl)
    | (go_at_call 92; refine (valid_any _ _ [⟨#[97, 98]⟩, ⟨#[99, 100]⟩] _ _ _ _ _ _ (by (repeat (first | assumption | refine LinesAt.ovr ?_ _ | refine LinesAt.alloc ?_ _ | refine LinesAt.drewN ?_ _ | refine LinesAt.drew ?_)))).mono ?_; rintro e w1 ⟨rfl, hbl⟩; obtain ⟨x5, rfl⟩ := ovr_of_below hbl; clear hbl))
  go_ret
  exact ⟨rfl, by (repeat (first | exact Below.refl _ _ | refine Below.alloc ?_ (by first | exact Nat.le_refl _ | (simp; done) | (simp; omega)) _ | refine below_ovr_of ?_ | refine drew_below ?_ _ | refine Below.drew ?_ | refine Below.setCell ?_ (by first | exact Nat.le_refl _ | (simp; done) | (simp; omega)) _ | assumption))⟩

end Go.Proofs.Ytlbbgocggifjaaa
