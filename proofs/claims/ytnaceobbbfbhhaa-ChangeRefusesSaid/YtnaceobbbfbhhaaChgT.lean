/- Layer 21: the chapter's example. Conditions: none beyond what each says. -/
import Derived.Test.YtnaceobbbfbhhaaChgN
import Derived.Test.YtnaceobbbfbhhaaChgF
import Derived.Test.YtnaceobbbfbhhaaChgH
import Derived.Test.YtnaceobbbfbhhaaChgK
namespace Go.Proofs.Ytnaceobbbfbhhaa
open Go.RowKit Go.Shelf

abbrev kA : List ByteArray := [⟨#[97]⟩]
abbrev kX : List ByteArray := [⟨#[120]⟩]
abbrev kBC : List ByteArray := [⟨#[98]⟩, ⟨#[99]⟩]
abbrev kC : Chg := (0, kA, kBC)
theorem known21_1 : applyAll kA [kC] = some kBC := by decide
theorem known21_2 : applyAll kBC (invP [kC]) = some kA := by decide
theorem known21_3 : applyAll kX [kC] = none := by decide
theorem known21_4 : fitsP kA [kC] = true := by decide
set_option maxRecDepth 100000 in
set_option maxHeartbeats 4000000 in
theorem known21_any (w : World) : Calls Try.prog 21 #[] w fun e w' => e = .returned (.bool true) ∧ Below w.heap.size w w' := by
  have hA : LinesAt (w.alloc (.cells #[.string ⟨#[97]⟩] 9)) (some ⟨w.heap.size, 0, none⟩) kA := lines_new _ _ _ (by decide) (by decide) rfl rfl
  have hB : LinesAt ((w.alloc (.cells #[.string ⟨#[97]⟩] 9)).alloc (.cells #[.string ⟨#[98]⟩, .string ⟨#[99]⟩] 9)) (some ⟨w.heap.size + 1, 0, none⟩) kBC := lines_new _ _ _ (by decide) (by decide) rfl (by simp)
  go_enter Try.func21, Try.ntmps21
  go_wp2_with fail
  go_at_call 25
  refine (applies_any _ _ _ _ kA [kC] _ (by (repeat (first | assumption | ((refine lines_new _ _ _ (by decide) (by decide) rfl ?_); (simp; done)) | refine LinesAt.ovr ?_ _ | refine LinesAt.alloc ?_ _ | refine LinesAt.drewN ?_ _ | refine LinesAt.drew ?_))) (by decide) (chgs_new1 _ (by (repeat (first | assumption | ((refine lines_new _ _ _ (by decide) (by decide) rfl ?_); (simp; done)) | refine LinesAt.ovr ?_ _ | refine LinesAt.alloc ?_ _ | refine LinesAt.drewN ?_ _ | refine LinesAt.drew ?_))) (by (repeat (first | assumption | ((refine lines_new _ _ _ (by decide) (by decide) rfl ?_); (simp; done)) | refine LinesAt.ovr ?_ _ | refine LinesAt.alloc ?_ _ | refine LinesAt.drewN ?_ _ | refine LinesAt.drew ?_))) (by decide) (by decide) (by rfl) (by rfl) (by simp)) (by decide) (by decide) (by decide)).mono ?_
  rintro e w1 ⟨⟨v, rfl, hv⟩, hbl⟩
  rw [known21_1] at hv
  obtain ⟨la, lc, rfl, hl, hlc⟩ := hv
  obtain ⟨y1, rfl⟩ := ovr_of_below hbl
  clear hbl
  go_wp2_with fail
  go_at_call 31
  refine (pinv_any _ _ [kC] _ (chgs_new1 _ (by (repeat (first | assumption | ((refine lines_new _ _ _ (by decide) (by decide) rfl ?_); (simp; done)) | refine LinesAt.ovr ?_ _ | refine LinesAt.alloc ?_ _ | refine LinesAt.drewN ?_ _ | refine LinesAt.drew ?_))) (by (repeat (first | assumption | ((refine lines_new _ _ _ (by decide) (by decide) rfl ?_); (simp; done)) | refine LinesAt.ovr ?_ _ | refine LinesAt.alloc ?_ _ | refine LinesAt.drewN ?_ _ | refine LinesAt.drew ?_))) (by decide) (by decide) (by rfl) (by rfl) (by simp)) (by decide) (by decide)).mono ?_
  rintro e w1 ⟨⟨v, rfl, hrow⟩, hbl⟩
  obtain ⟨ia, ic, rfl, hI, hIc⟩ := hrow.at
  obtain ⟨y2, rfl⟩ := ovr_of_below hbl
  clear hbl hrow
  go_wp2_with fail
  go_at_call 25
  refine (applies_any _ _ _ _ kBC (invP [kC]) _ (by (repeat (first | assumption | ((refine lines_new _ _ _ (by decide) (by decide) rfl ?_); (simp; done)) | refine LinesAt.ovr ?_ _ | refine LinesAt.alloc ?_ _ | refine LinesAt.drewN ?_ _ | refine LinesAt.drew ?_))) hlc hI (by decide) (by decide) (by decide)).mono ?_
  rintro e w1 ⟨⟨v, rfl, hv⟩, hbl⟩
  rw [known21_2] at hv
  obtain ⟨ma, mc, rfl, hm, hmc⟩ := hv
  obtain ⟨y3, rfl⟩ := ovr_of_below hbl
  clear hbl
  go_wp2_with fail
  go_at_call 25
  refine (applies_any _ _ _ _ kX [kC] _ (by (repeat (first | assumption | ((refine lines_new _ _ _ (by decide) (by decide) rfl ?_); (simp; done)) | refine LinesAt.ovr ?_ _ | refine LinesAt.alloc ?_ _ | refine LinesAt.drewN ?_ _ | refine LinesAt.drew ?_))) (by decide) (chgs_new1 _ (by (repeat (first | assumption | ((refine lines_new _ _ _ (by decide) (by decide) rfl ?_); (simp; done)) | refine LinesAt.ovr ?_ _ | refine LinesAt.alloc ?_ _ | refine LinesAt.drewN ?_ _ | refine LinesAt.drew ?_))) (by (repeat (first | assumption | ((refine lines_new _ _ _ (by decide) (by decide) rfl ?_); (simp; done)) | refine LinesAt.ovr ?_ _ | refine LinesAt.alloc ?_ _ | refine LinesAt.drewN ?_ _ | refine LinesAt.drew ?_))) (by decide) (by decide) (by rfl) (by rfl) (by simp)) (by decide) (by decide) (by decide)).mono ?_
  rintro e w1 ⟨⟨v, rfl, hv⟩, hbl⟩
  rw [known21_3] at hv
  have hv' : v = .tuple #[.slice none 0 0, .bool false] := hv
  subst hv'
  obtain ⟨y4, rfl⟩ := ovr_of_below hbl
  clear hbl hv
  go_wp2_with fail
  go_at_call 27
  refine (strings_any _ _ _ _ kBC kBC _ (by (repeat (first | assumption | ((refine lines_new _ _ _ (by decide) (by decide) rfl ?_); (simp; done)) | refine LinesAt.ovr ?_ _ | refine LinesAt.alloc ?_ _ | refine LinesAt.drewN ?_ _ | refine LinesAt.drew ?_))) (by (repeat (first | assumption | ((refine lines_new _ _ _ (by decide) (by decide) rfl ?_); (simp; done)) | refine LinesAt.ovr ?_ _ | refine LinesAt.alloc ?_ _ | refine LinesAt.drewN ?_ _ | refine LinesAt.drew ?_))) (by decide)).mono ?_
  rw [eqB_refl]; rintro e w1 ⟨rfl, hbl⟩; obtain ⟨y5, rfl⟩ := ovr_of_below hbl; clear hbl
  go_wp2_with fail
  go_at_call 27
  refine (strings_any _ _ _ _ kA kA _ (by (repeat (first | assumption | ((refine lines_new _ _ _ (by decide) (by decide) rfl ?_); (simp; done)) | refine LinesAt.ovr ?_ _ | refine LinesAt.alloc ?_ _ | refine LinesAt.drewN ?_ _ | refine LinesAt.drew ?_))) (by (repeat (first | assumption | ((refine lines_new _ _ _ (by decide) (by decide) rfl ?_); (simp; done)) | refine LinesAt.ovr ?_ _ | refine LinesAt.alloc ?_ _ | refine LinesAt.drewN ?_ _ | refine LinesAt.drew ?_))) (by decide)).mono ?_
  rw [eqB_refl]; rintro e w1 ⟨rfl, hbl⟩; obtain ⟨y6, rfl⟩ := ovr_of_below hbl; clear hbl
  go_wp2_with fail
  go_at_call 33
  refine (grow_any _ _ _ _ kA kBC _ _ (by (repeat (first | assumption | ((refine lines_new _ _ _ (by decide) (by decide) rfl ?_); (simp; done)) | refine LinesAt.ovr ?_ _ | refine LinesAt.alloc ?_ _ | refine LinesAt.drewN ?_ _ | refine LinesAt.drew ?_))) (by (repeat (first | assumption | ((refine lines_new _ _ _ (by decide) (by decide) rfl ?_); (simp; done)) | refine LinesAt.ovr ?_ _ | refine LinesAt.alloc ?_ _ | refine LinesAt.drewN ?_ _ | refine LinesAt.drew ?_))) (by decide) (by decide)).mono ?_
  rw [show ((sizeP kBC : Nat) : Int) - ((sizeP kA : Nat) : Int) = 2 by decide]
  rintro e w1 ⟨rfl, hbl⟩; obtain ⟨y7, rfl⟩ := ovr_of_below hbl; clear hbl
  go_wp2_with fail
  go_at_call 28
  refine (pfits_any _ _ _ _ kA [kC] _ (by (repeat (first | assumption | ((refine lines_new _ _ _ (by decide) (by decide) rfl ?_); (simp; done)) | refine LinesAt.ovr ?_ _ | refine LinesAt.alloc ?_ _ | refine LinesAt.drewN ?_ _ | refine LinesAt.drew ?_))) (by decide) (chgs_new1 _ (by (repeat (first | assumption | ((refine lines_new _ _ _ (by decide) (by decide) rfl ?_); (simp; done)) | refine LinesAt.ovr ?_ _ | refine LinesAt.alloc ?_ _ | refine LinesAt.drewN ?_ _ | refine LinesAt.drew ?_))) (by (repeat (first | assumption | ((refine lines_new _ _ _ (by decide) (by decide) rfl ?_); (simp; done)) | refine LinesAt.ovr ?_ _ | refine LinesAt.alloc ?_ _ | refine LinesAt.drewN ?_ _ | refine LinesAt.drew ?_))) (by decide) (by decide) (by rfl) (by rfl) (by simp)) (by decide) (by decide) (by decide)).mono ?_
  rw [known21_4]
  rintro e w1 ⟨rfl, hbl⟩; obtain ⟨y8, rfl⟩ := ovr_of_below hbl; clear hbl
  go_wp2_with fail
  go_ret
  exact ⟨by simp, by (repeat (first | with_reducible exact Below.refl _ _ | (with_reducible refine Below.setCell ?_ ?_ _; rotate_left; · (first | exact Nat.le_refl _ | assumption | omega | (simp; done) | (simp; omega))) | (with_reducible refine Below.alloc ?_ ?_ _; rotate_left; · (first | exact Nat.le_refl _ | assumption | omega | (simp; done) | (simp; omega))) | with_reducible refine below_ovr_of ?_ | with_reducible refine drew_below ?_ _ | with_reducible refine Below.drew ?_ | with_reducible assumption))⟩
end Go.Proofs.Ytnaceobbbfbhhaa
