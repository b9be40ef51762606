/- Layer 10: the chapter's example, the comparison of motions. Conditions: none. -/
import Derived.Test.YtnaceobbbfbhhaaPara4
import Derived.Test.YtnaceobbbfbhhaaSentBack
import Derived.Test.YtnaceobbbfbhhaaLawKit
namespace Go.Proofs.Ytnaceobbbfbhhaa
open Go.RowKit

abbrev L10 : List ByteArray := [⟨#[65, 46, 32, 66]⟩, ⟨#[]⟩, ⟨#[99]⟩]
theorem known10_c : colF ⟨#[65, 46, 32, 66]⟩ true 0 = [0, 3] := by
  rw [colF_on (by decide) (by decide), show stopB ⟨#[65, 46, 32, 66]⟩ 0 = false by decide, colF_off (by decide) (by decide), show stopB ⟨#[65, 46, 32, 66]⟩ (0 + 1) = true by decide, colF_blank (by decide) (by decide), colF_on (by decide) (by decide), colF_end (by decide)]
theorem known10_o : opF ⟨#[65, 46, 32, 66]⟩ true 0 = false := by
  rw [opF_on (by decide) (by decide), opF_on (by decide) (by decide), opF_blank (by decide) (by decide), opF_on (by decide) (by decide), opF_end (by decide)]
  decide
theorem known10_l : colF ⟨#[99]⟩ true 0 = [0] := by
  rw [colF_on (by decide) (by decide), colF_end (by decide)]
theorem known10_s : sentP L10 = [(0, 0), (0, 3), (1, 0), (2, 0)] := by
  rw [sentP, sentF_line (s := ⟨#[65, 46, 32, 66]⟩) (by decide) (by decide) rfl, known10_c, known10_o, Bool.false_and, sentF_head (by decide) (by decide) (by decide), sentF_line (s := ⟨#[99]⟩) (by decide) (by decide) rfl, known10_l, sentF_end (by decide)]
  decide
theorem known10_1 : paraP L10 0 0 1 false true = ((1, 0, 0, true, -1), true) := by
  rw [paraP, if_pos ⟨by decide, by decide⟩, show (1 : Int).toNat = 0 + 1 from rfl, stepsP_on (l2 := 1) (c2 := 0) (by rw [parT, if_pos rfl, nxT, pnF_yes (by decide) (by decide)]; rfl) (by decide)]
  rfl
theorem known10_2 : sentNextP L10 0 0 1 false = ((0, 3, 0, true, -1), true) := by
  rw [sentNextP, if_pos ⟨by decide, by decide⟩, known10_s]
  decide
theorem known10_3 : paraP L10 2 0 1 false false = ((1, 0, 0, true, -1), true) := by
  rw [paraP, if_pos ⟨by decide, by decide⟩, show (1 : Int).toNat = 0 + 1 from rfl, stepsP_on (l2 := 1) (c2 := 0) (by decide) (by decide)]
  rfl
theorem known10_4 : sentBackP L10 0 0 1 = ((0, 0, 0, false, 0), false) := by
  rw [sentBackP, if_pos ⟨by decide, by decide⟩, known10_s]
  decide
set_option maxRecDepth 100000 in
set_option maxHeartbeats 2000000 in
theorem known10_any (w : World) : Calls Try.prog 49 #[] w fun e w' => e = .returned (.bool true) ∧ Below w.heap.size w w' := by
  have hl : LinesAt (w.alloc (.cells #[.string ⟨#[65, 46, 32, 66]⟩, .string ⟨#[]⟩, .string ⟨#[99]⟩] 9)) (some ⟨w.heap.size, 0, none⟩) L10 := lines_new _ _ _ (by decide) (by decide) rfl rfl
  go_enter Try.func49, Try.ntmps49
  go_wp2_with fail
  go_at_call 50; refine (paraNext_any _ _ L10 _ _ _ _ _ (by (repeat (first | assumption | refine LinesAt.ovr ?_ _ | refine LinesAt.alloc ?_ _ | refine LinesAt.drewN ?_ _ | refine LinesAt.drew ?_))) (by decide)).mono ?_; rw [known10_1]; rintro e w1 ⟨rfl, hbl⟩; obtain ⟨x1, rfl⟩ := ovr_of_below hbl; clear hbl
  go_wp2_with fail
  go_at_call 59; refine (psentNext_any _ _ L10 _ _ _ _ _ (by (repeat (first | assumption | refine LinesAt.ovr ?_ _ | refine LinesAt.alloc ?_ _ | refine LinesAt.drewN ?_ _ | refine LinesAt.drew ?_))) (by decide) (by decide)).mono ?_; rw [known10_2]; rintro e w1 ⟨rfl, hbl⟩; obtain ⟨x2, rfl⟩ := ovr_of_below hbl; clear hbl
  go_wp2_with fail
  go_at_call 53; refine (paraBack_any _ _ L10 _ _ _ _ (by (repeat (first | assumption | refine LinesAt.ovr ?_ _ | refine LinesAt.alloc ?_ _ | refine LinesAt.drewN ?_ _ | refine LinesAt.drew ?_))) (by decide)).mono ?_; rw [known10_3]; rintro e w1 ⟨rfl, hbl⟩; obtain ⟨x3, rfl⟩ := ovr_of_below hbl; clear hbl
  go_wp2_with fail
  go_at_call 61; refine (psentBack_any _ _ L10 _ _ _ _ (by (repeat (first | assumption | refine LinesAt.ovr ?_ _ | refine LinesAt.alloc ?_ _ | refine LinesAt.drewN ?_ _ | refine LinesAt.drew ?_))) (by decide) (by decide)).mono ?_; rw [known10_4]; rintro e w1 ⟨rfl, hbl⟩; obtain ⟨x4, rfl⟩ := ovr_of_below hbl; clear hbl
  go_wp2
  go_ret
  exact ⟨rfl, by (repeat (first | with_reducible exact Below.refl _ _ | (with_reducible refine Below.setCell ?_ ?_ _; rotate_left; · (first | exact Nat.le_refl _ | assumption | omega | (simp; done) | (simp; omega))) | (with_reducible refine Below.alloc ?_ ?_ _; rotate_left; · (first | exact Nat.le_refl _ | assumption | omega | (simp; done) | (simp; omega))) | with_reducible refine below_ovr_of ?_ | with_reducible refine drew_below ?_ _ | with_reducible refine Below.drew ?_ | with_reducible assumption))⟩
/-- A motion held against itself. -/
theorem same10_any (a b c : Int) (j : Bool) (t : Int) (ok : Bool) (w : World) :
    Calls Try.prog 52 #[.agg #[.int .i64 a, .int .i64 b, .int .i64 c, .bool j, .int .i64 t], .bool ok, .agg #[.int .i64 a, .int .i64 b, .int .i64 c, .bool j, .int .i64 t], .bool ok] w fun e w' =>
      e = .returned (.bool true) ∧ Below w.heap.size w w' := by
  go_enter Try.func52, Try.ntmps52
  go_wp2
  go_ret
  exact ⟨ret_bool (by simp), by (repeat (first | exact Below.refl _ _ | refine Below.alloc ?_ (by first | exact Nat.le_refl _ | (simp; done) | (simp; omega)) _ | refine below_ovr_of ?_ | refine drew_below ?_ _ | refine Below.drew ?_ | refine Below.setCell ?_ (by first | exact Nat.le_refl _ | (simp; done) | (simp; omega)) _ | assumption))⟩
end Go.Proofs.Ytnaceobbbfbhhaa
