/- Layer 17: the chapter's example. Conditions: none. -/
import Derived.Test.YtlbbgocggifjaaaObj2
import Derived.Test.YtlbbgocggifjaaaLawKit
namespace Go.Proofs.Ytlbbgocggifjaaa
open Go.RowKit

theorem known17_e : enclP [⟨#[40, 97, 98, 41]⟩] 0 1 40 1 = (((0, 0), (0, 3)), true) := by
  have h2 : scanF (flat [⟨#[40, 97, 98, 41]⟩]) 40 41 1 (0 + 1) = some 3 := by
    rw [scanF_miss (by decide) (by decide), scanF_miss (by decide) (by decide), scanF_hit (by decide) (by decide)]
  have h3 : encF (flat [⟨#[40, 97, 98, 41]⟩]) 40 41 1 1 2 = some (0, 3) := by
    rw [encF_no (by decide), encF_hit (by decide) h2 (by decide) (by decide)]
  rw [enclP, if_pos (by decide)]
  show encR _ (encF (flat [⟨#[40, 97, 98, 41]⟩]) 40 41 1 1 2) = _
  rw [h3]; decide
theorem known17_n : enclP [⟨#[40, 97, 98, 41]⟩] 0 1 91 1 = noEnc := by
  have h3 : encF (flat [⟨#[40, 97, 98, 41]⟩]) 91 93 1 1 2 = none := by
    rw [encF_no (by decide), encF_no (by decide), encF_end]
  rw [enclP, if_pos (by decide)]
  show encR _ (encF (flat [⟨#[40, 97, 98, 41]⟩]) 91 93 1 1 2) = _
  rw [h3]; rfl
theorem known17_1 : bracketP [⟨#[40, 97, 98, 41]⟩] 0 1 40 1 false = ((0, 0, 1, 0, 3), true) := (bracketP_in (by decide) known17_e).trans (by decide)
theorem known17_2 : bracketP [⟨#[40, 97, 98, 41]⟩] 0 1 40 1 true = ((0, 0, 0, 0, 4), true) := (bracketP_out (by decide) known17_e).trans (by decide)
theorem known17_3 : bracketP [⟨#[40, 97, 98, 41]⟩] 0 1 91 1 false = ((0, 0, 0, 0, 0), false) := bracketP_none known17_n
set_option maxRecDepth 100000 in
set_option maxHeartbeats 2000000 in
theorem known17_any (w : World) : Calls Try.prog 53 #[] w fun e w' => e = .returned (.bool true) ∧ Below w.heap.size w w' := by
  have hl : LinesAt (w.alloc (.cells #[.string ⟨#[40, 97, 98, 41]⟩] 9)) (some ⟨w.heap.size, 0, none⟩) [⟨#[40, 97, 98, 41]⟩] := lines_new _ _ _ (by decide) (by decide) rfl rfl
  go_enter Try.func53, Try.ntmps53
  go_wp2_with fail
  go_at_call 54; refine (binner_any _ _ [⟨#[40, 97, 98, 41]⟩] _ _ _ _ _ (by (repeat (first | assumption | refine LinesAt.ovr ?_ _ | refine LinesAt.alloc ?_ _ | refine LinesAt.drewN ?_ _ | refine LinesAt.drew ?_))) (by decide) (by decide)).mono ?_; rw [known17_1]; rintro e w1 ⟨rfl, hbl⟩; obtain ⟨x1, rfl⟩ := ovr_of_below hbl; clear hbl
  go_wp2_with fail
  go_at_call 56; refine (baround_any _ _ [⟨#[40, 97, 98, 41]⟩] _ _ _ _ _ (by (repeat (first | assumption | refine LinesAt.ovr ?_ _ | refine LinesAt.alloc ?_ _ | refine LinesAt.drewN ?_ _ | refine LinesAt.drew ?_))) (by decide) (by decide)).mono ?_; rw [known17_2]; rintro e w1 ⟨rfl, hbl⟩; obtain ⟨x2, rfl⟩ := ovr_of_below hbl; clear hbl
  go_wp2_with fail
  go_at_call 54; refine (binner_any _ _ [⟨#[40, 97, 98, 41]⟩] _ _ _ _ _ (by (repeat (first | assumption | refine LinesAt.ovr ?_ _ | refine LinesAt.alloc ?_ _ | refine LinesAt.drewN ?_ _ | refine LinesAt.drew ?_))) (by decide) (by decide)).mono ?_; rw [known17_3]; rintro e w1 ⟨rfl, hbl⟩; obtain ⟨x3, rfl⟩ := ovr_of_below hbl; clear hbl
  go_wp2
  go_ret
  exact ⟨rfl, by (repeat (first | with_reducible exact Below.refl _ _ | (with_reducible refine Below.setCell ?_ ?_ _; rotate_left; · (first | exact Nat.le_refl _ | assumption | omega | (simp; done) | (simp; omega))) | (with_reducible refine Below.alloc ?_ ?_ _; rotate_left; · (first | exact Nat.le_refl _ | assumption | omega | (simp; done) | (simp; omega))) | with_reducible refine below_ovr_of ?_ | with_reducible refine drew_below ?_ _ | with_reducible refine Below.drew ?_ | with_reducible assumption))⟩
end Go.Proofs.Ytlbbgocggifjaaa
