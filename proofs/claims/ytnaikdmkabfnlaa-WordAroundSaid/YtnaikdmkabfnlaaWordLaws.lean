/- Layer 15: the chapter's example. Conditions: none. -/
import Derived.Test.YtnaikdmkabfnlaaWord6

namespace Go.Proofs.Ytnaikdmkabfnlaa
open Go.RowKit

theorem known15_r : runF ⟨#[97, 98, 32, 99, 100]⟩ false 0 0 = [(0, 2), (2, 3), (3, 5)] := by
  rw [runF_on (by decide) (by decide), runF_cut (by decide) (by decide), runF_cut (by decide) (by decide), runF_on (by decide) (by decide), runF_cut (by decide) (by decide), runF_end (by decide)]
theorem known15_1 : wordP [⟨#[97, 98, 32, 99, 100]⟩] 0 0 1 false true = ((0, 0, 0, 0, 3), true) := by
  rw [wordP, if_pos ⟨by decide, by decide, by decide⟩, if_pos rfl, show ln [⟨#[97, 98, 32, 99, 100]⟩] 0 = ⟨#[97, 98, 32, 99, 100]⟩ from rfl, known15_r]
  decide
theorem known15_2 : wordP [⟨#[97, 98, 32, 99, 100]⟩] 0 1 2 false false = ((0, 0, 0, 0, 3), true) := by
  rw [wordP, if_pos ⟨by decide, by decide, by decide⟩, if_neg (by decide), show ln [⟨#[97, 98, 32, 99, 100]⟩] 0 = ⟨#[97, 98, 32, 99, 100]⟩ from rfl, known15_r]
  decide
theorem known15_3 : wordP [⟨#[]⟩] 0 0 1 false false = ((0, 0, 0, 0, 0), false) := wordP_no (by decide)
set_option maxRecDepth 100000 in
set_option maxHeartbeats 2000000 in
theorem known15_any (w : World) : Calls Try.prog 37 #[] w fun e w' => e = .returned (.bool true) ∧ Below w.heap.size w w' := by
  have hl : LinesAt (w.alloc (.cells #[.string ⟨#[97, 98, 32, 99, 100]⟩] 9)) (some ⟨w.heap.size, 0, none⟩) [⟨#[97, 98, 32, 99, 100]⟩] := lines_new _ _ _ (by decide) (by decide) rfl rfl
  go_enter Try.func37, Try.ntmps37
  go_wp2_with fail
  go_at_call 44; refine (waround_any _ _ [⟨#[97, 98, 32, 99, 100]⟩] _ _ _ _ _ (by (repeat (first | assumption | refine LinesAt.ovr ?_ _ | refine LinesAt.alloc ?_ _ | refine LinesAt.drewN ?_ _ | refine LinesAt.drew ?_))) (by decide)).mono ?_; rw [known15_1]; rintro e w1 ⟨rfl, hbl⟩; obtain ⟨x1, rfl⟩ := ovr_of_below hbl; clear hbl
  go_wp2_with fail
  go_at_call 42; refine (winner_any _ _ [⟨#[97, 98, 32, 99, 100]⟩] _ _ _ _ _ (by (repeat (first | assumption | refine LinesAt.ovr ?_ _ | refine LinesAt.alloc ?_ _ | refine LinesAt.drewN ?_ _ | refine LinesAt.drew ?_))) (by decide)).mono ?_; rw [known15_2]; rintro e w1 ⟨rfl, hbl⟩; obtain ⟨x2, rfl⟩ := ovr_of_below hbl; clear hbl
  go_wp2_with fail
  go_at_call 42; refine (winner_any _ _ [⟨#[]⟩] _ _ _ _ _ (lines_new _ _ _ (by decide) (by decide) rfl (by simp)) (by decide)).mono ?_; rw [known15_3]; rintro e w1 ⟨rfl, hbl⟩; obtain ⟨x3, rfl⟩ := ovr_of_below hbl; clear hbl
  go_wp2
  go_ret
  exact ⟨rfl, by (repeat (first | with_reducible exact Below.refl _ _ | (with_reducible refine Below.setCell ?_ ?_ _; rotate_left; · (first | exact Nat.le_refl _ | assumption | omega | (simp; done) | (simp; omega))) | (with_reducible refine Below.alloc ?_ ?_ _; rotate_left; · (first | exact Nat.le_refl _ | assumption | omega | (simp; done) | (simp; omega))) | with_reducible refine below_ovr_of ?_ | with_reducible refine drew_below ?_ _ | with_reducible refine Below.drew ?_ | with_reducible assumption))⟩
end Go.Proofs.Ytnaikdmkabfnlaa
