/- Layer 18: the chapter's example. Conditions: none. -/
import Derived.Test.YtnaceobbbfbhhaaBlk3
import Derived.Test.YtnaceobbbfbhhaaSObj
import Derived.Test.YtnaceobbbfbhhaaLawKit
namespace Go.Proofs.Ytnaceobbbfbhhaa
open Go.RowKit

abbrev L18 : List ByteArray := [⟨#[97]⟩, ⟨#[]⟩, ⟨#[98, 32, 99, 46, 32, 100]⟩]
theorem known18_b : blkP L18 = [(0, 1), (1, 2), (2, 3)] := by
  rw [blkP, blk_cut (by decide) (by decide), blk_cut (by decide) (by decide), blk_cut (by decide) (by decide), blk_end (by decide)]
theorem known18_c : colF ⟨#[98, 32, 99, 46, 32, 100]⟩ true 0 = [0, 5] := by
  rw [colF_on (by decide) (by decide), show stopB ⟨#[98, 32, 99, 46, 32, 100]⟩ 0 = false by decide, colF_blank (by decide) (by decide), colF_off (by decide) (by decide), show stopB ⟨#[98, 32, 99, 46, 32, 100]⟩ (0 + 1 + 1) = false by decide, colF_off (by decide) (by decide), show stopB ⟨#[98, 32, 99, 46, 32, 100]⟩ (0 + 1 + 1 + 1) = true by decide, colF_blank (by decide) (by decide), colF_on (by decide) (by decide), colF_end (by decide)]
theorem known18_a : colF ⟨#[97]⟩ true 0 = [0] := by
  rw [colF_on (by decide) (by decide), colF_end (by decide)]
theorem known18_o : opF ⟨#[97]⟩ true 0 = false := by
  rw [opF_on (by decide) (by decide), opF_end (by decide)]
  decide
theorem known18_s : sentP L18 = [(0, 0), (1, 0), (2, 0), (2, 5)] := by
  rw [sentP, sentF_line (s := ⟨#[97]⟩) (by decide) (by decide) rfl, known18_a, known18_o, Bool.false_and, sentF_head (by decide) (by decide) (by decide), sentF_line (s := ⟨#[98, 32, 99, 46, 32, 100]⟩) (by decide) (by decide) rfl, known18_c, sentF_end (by decide)]
  decide
theorem known18_p : cellP L18 = [(0, 0), (2, 0), (2, 1), (2, 2), (2, 3), (2, 4), (2, 5)] := by
  rw [cellP, cellF_on (s := ⟨#[97]⟩) (by decide) rfl, rowC_on (by decide), rowC_end (by decide), cellF_on (s := ⟨#[]⟩) (by decide) rfl, rowC_end (by decide), cellF_on (s := ⟨#[98, 32, 99, 46, 32, 100]⟩) (by decide) rfl, rowC_on (by decide), rowC_on (by decide), rowC_on (by decide), rowC_on (by decide), rowC_on (by decide), rowC_on (by decide), rowC_end (by decide), cellF_end (by decide)]
  rfl
theorem known18_1 : paraOP L18 0 0 1 true = ((1, 0, 0, 1, 0), true) := by
  rw [paraOP, if_pos ⟨by decide, by decide⟩, if_pos rfl, known18_b]
  decide
theorem known18_2 : paraOP L18 2 0 1 false = ((1, 2, 0, 2, 0), true) := by
  rw [paraOP, if_pos ⟨by decide, by decide⟩, if_neg (by decide), known18_b]
  decide
theorem known18_3 : sObjP L18 2 0 false = ((0, 2, 0, 2, 4), true) := by
  rw [sObjP, if_pos (by decide), toS, known18_s, known18_p]
  decide
theorem known18_4 : paraOP L18 0 0 4 false = ((0, 0, 0, 0, 0), false) := by
  rw [paraOP, if_pos ⟨by decide, by decide⟩, if_neg (by decide), known18_b]
  decide
set_option maxRecDepth 100000 in
set_option maxHeartbeats 2000000 in
theorem known18_any (w : World) : Calls Try.prog 63 #[] w fun e w' => e = .returned (.bool true) ∧ Below w.heap.size w w' := by
  have hl : LinesAt (w.alloc (.cells #[.string ⟨#[97]⟩, .string ⟨#[]⟩, .string ⟨#[98, 32, 99, 46, 32, 100]⟩] 9)) (some ⟨w.heap.size, 0, none⟩) L18 := lines_new _ _ _ (by decide) (by decide) rfl rfl
  go_enter Try.func63, Try.ntmps63
  go_wp2_with fail
  go_at_call 69; refine (paround_any _ _ L18 _ _ _ _ (by (repeat (first | assumption | refine LinesAt.ovr ?_ _ | refine LinesAt.alloc ?_ _ | refine LinesAt.drewN ?_ _ | refine LinesAt.drew ?_))) (by decide) (by decide)).mono ?_; rw [known18_1]; rintro e w1 ⟨rfl, hbl⟩; obtain ⟨x1, rfl⟩ := ovr_of_below hbl; clear hbl
  go_wp2_with fail
  go_at_call 67; refine (pinner_any _ _ L18 _ _ _ _ (by (repeat (first | assumption | refine LinesAt.ovr ?_ _ | refine LinesAt.alloc ?_ _ | refine LinesAt.drewN ?_ _ | refine LinesAt.drew ?_))) (by decide) (by decide)).mono ?_; rw [known18_2]; rintro e w1 ⟨rfl, hbl⟩; obtain ⟨x2, rfl⟩ := ovr_of_below hbl; clear hbl
  go_wp2_with fail
  go_at_call 71; refine (psobj_any _ _ L18 _ _ _ _ (by (repeat (first | assumption | refine LinesAt.ovr ?_ _ | refine LinesAt.alloc ?_ _ | refine LinesAt.drewN ?_ _ | refine LinesAt.drew ?_))) (by decide)).mono ?_; rw [known18_3]; rintro e w1 ⟨rfl, hbl⟩; obtain ⟨x3, rfl⟩ := ovr_of_below hbl; clear hbl
  go_wp2_with fail
  go_at_call 67; refine (pinner_any _ _ L18 _ _ _ _ (by (repeat (first | assumption | refine LinesAt.ovr ?_ _ | refine LinesAt.alloc ?_ _ | refine LinesAt.drewN ?_ _ | refine LinesAt.drew ?_))) (by decide) (by decide)).mono ?_; rw [known18_4]; rintro e w1 ⟨rfl, hbl⟩; obtain ⟨x4, rfl⟩ := ovr_of_below hbl; clear hbl
  go_wp2
  go_ret
  exact ⟨by simp, by (repeat (first | with_reducible exact Below.refl _ _ | (with_reducible refine Below.setCell ?_ ?_ _; rotate_left; · (first | exact Nat.le_refl _ | assumption | omega | (simp; done) | (simp; omega))) | (with_reducible refine Below.alloc ?_ ?_ _; rotate_left; · (first | exact Nat.le_refl _ | assumption | omega | (simp; done) | (simp; omega))) | with_reducible refine below_ovr_of ?_ | with_reducible refine drew_below ?_ _ | with_reducible refine Below.drew ?_ | with_reducible assumption))⟩
end Go.Proofs.Ytnaceobbbfbhhaa
