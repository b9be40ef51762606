/- Layer 11: the chapter's example, the comparison of motions. Conditions: none. -/
import Derived.Test.YtlbbgocggifjaaaMatch2
import Derived.Test.YtlbbgocggifjaaaPair11
import Derived.Test.YtlbbgocggifjaaaEncl4
import Derived.Test.YtlbbgocggifjaaaREncl3
import Derived.Test.YtlbbgocggifjaaaLawKit
namespace Go.Proofs.Ytlbbgocggifjaaa
open Go.RowKit

theorem known11_m1 : matchP [⟨#[40, 97, 40, 98, 41, 41]⟩] 0 1 = ((0, 4, 1, true, -1), true) := by
  have hp : plcB [⟨#[40, 97, 40, 98, 41, 41]⟩] ((0 : Nat) : Int) ((1 : Nat) : Int) = true := by decide
  have h := matchP_yes hp rfl
  rw [show ([⟨#[40, 97, 40, 98, 41, 41]⟩] : List ByteArray).getD 0 .empty = ⟨#[40, 97, 40, 98, 41, 41]⟩ from rfl, brkN_miss (by decide) (by decide), brkN_hit (by decide) (by decide)] at h
  refine h.trans ?_
  rw [matchK, otherP_open (o := 40) (s := 41) (by decide), scanF_miss (by decide) (by decide), scanF_hit (by decide) (by decide)]
  decide
theorem known11_m2 : matchP [⟨#[40, 97]⟩] 0 0 = noMov := by
  have hp : plcB [⟨#[40, 97]⟩] ((0 : Nat) : Int) ((0 : Nat) : Int) = true := by decide
  have h := matchP_yes hp rfl
  rw [show ([⟨#[40, 97]⟩] : List ByteArray).getD 0 .empty = ⟨#[40, 97]⟩ from rfl, brkN_hit (by decide) (by decide)] at h
  refine h.trans ?_
  rw [matchK, otherP_open (o := 40) (s := 41) (by decide), scanF_miss (by decide) (by decide), scanF_end (by decide)]
  rfl
theorem known11_e : enclP [⟨#[40, 97, 40, 98, 41, 41]⟩] 0 3 40 2 = (((0, 0), (0, 5)), true) := by
  have h1 : scanF (flat [⟨#[40, 97, 40, 98, 41, 41]⟩]) 40 41 1 (2 + 1) = some 4 := by
    rw [scanF_miss (by decide) (by decide), scanF_hit (by decide) (by decide)]
  have h2 : scanF (flat [⟨#[40, 97, 40, 98, 41, 41]⟩]) 40 41 1 (0 + 1) = some 5 := by
    rw [scanF_miss (by decide) (by decide), scanF_miss (by decide) (by decide), scanF_miss (by decide) (by decide), scanF_miss (by decide) (by decide), scanF_hit (by decide) (by decide)]
  have h3 : encF (flat [⟨#[40, 97, 40, 98, 41, 41]⟩]) 40 41 3 2 4 = some (0, 5) := by
    rw [encF_no (by decide), encF_more (by decide) h1 (by decide) (by decide), encF_no (by decide), encF_hit (by decide) h2 (by decide) (by decide)]
  rw [enclP, if_pos (by decide)]
  show encR _ (encF (flat [⟨#[40, 97, 40, 98, 41, 41]⟩]) 40 41 3 2 4) = _
  rw [h3]; decide

set_option maxRecDepth 100000 in
set_option maxHeartbeats 2000000 in
theorem known11_any (w : World) : Calls Try.prog 44 #[] w fun e w' => e = .returned (.bool true) ∧ Below w.heap.size w w' := by
  have hl : LinesAt (w.alloc (.cells #[.string ⟨#[40, 97, 40, 98, 41, 41]⟩] 9)) (some ⟨w.heap.size, 0, none⟩) [⟨#[40, 97, 40, 98, 41, 41]⟩] := lines_new _ _ _ (by decide) (by decide) rfl rfl
  go_enter Try.func44, Try.ntmps44
  go_wp2_with fail
  go_at_call 45; refine (match_any _ _ [⟨#[40, 97, 40, 98, 41, 41]⟩] _ _ _ (by (repeat (first | assumption | refine LinesAt.ovr ?_ _ | refine LinesAt.alloc ?_ _ | refine LinesAt.drewN ?_ _ | refine LinesAt.drew ?_))) (by decide)).mono ?_; rw [known11_m1]; rintro e w1 ⟨rfl, hbl⟩; obtain ⟨x1, rfl⟩ := ovr_of_below hbl; clear hbl
  go_wp2_with fail
  go_at_call 50; refine (encl_any _ _ [⟨#[40, 97, 40, 98, 41, 41]⟩] _ _ _ _ _ (by (repeat (first | assumption | refine LinesAt.ovr ?_ _ | refine LinesAt.alloc ?_ _ | refine LinesAt.drewN ?_ _ | refine LinesAt.drew ?_))) (by decide) (by decide)).mono ?_; rw [known11_e]; rintro e w1 ⟨rfl, hbl⟩; obtain ⟨x2, rfl⟩ := ovr_of_below hbl; clear hbl
  go_wp2_with fail
  go_at_call 45; refine (match_any _ _ [⟨#[40, 97]⟩] _ _ _ (lines_new _ _ _ (by decide) (by decide) rfl (by simp)) (by decide)).mono ?_; rw [known11_m2, noMov]; rintro e w1 ⟨rfl, hbl⟩; obtain ⟨x3, rfl⟩ := ovr_of_below hbl; clear hbl
  go_wp2_with fail
  go_at_call 48; refine (kind_any _ _).mono ?_; rw [show kindP 93 = (91, 93, false, true) from by decide]; rintro e w1 ⟨rfl, rfl⟩
  go_wp2
  go_ret
  exact ⟨rfl, by (repeat (first | with_reducible exact Below.refl _ _ | (with_reducible refine Below.setCell ?_ ?_ _; rotate_left; · (first | exact Nat.le_refl _ | assumption | omega | (simp; done) | (simp; omega))) | (with_reducible refine Below.alloc ?_ ?_ _; rotate_left; · (first | exact Nat.le_refl _ | assumption | omega | (simp; done) | (simp; omega))) | with_reducible refine below_ovr_of ?_ | with_reducible refine drew_below ?_ _ | with_reducible refine Below.drew ?_ | with_reducible assumption))⟩
theorem same11_any (a b c : Int) (j : Bool) (t : Int) (ok : Bool) (w : World) :
    Calls Try.prog 47 #[.agg #[.int .i64 a, .int .i64 b, .int .i64 c, .bool j, .int .i64 t], .bool ok, .agg #[.int .i64 a, .int .i64 b, .int .i64 c, .bool j, .int .i64 t], .bool ok] w fun e w' =>
      e = .returned (.bool true) ∧ Below w.heap.size w w' := by
  go_enter Try.func47, Try.ntmps47
  go_wp2
  go_ret
  exact ⟨ret_bool (by simp), by (repeat (first | exact Below.refl _ _ | refine Below.alloc ?_ (by first | exact Nat.le_refl _ | (simp; done) | (simp; omega)) _ | refine below_ovr_of ?_ | refine drew_below ?_ _ | refine Below.drew ?_ | refine Below.setCell ?_ (by first | exact Nat.le_refl _ | (simp; done) | (simp; omega)) _ | assumption))⟩
end Go.Proofs.Ytlbbgocggifjaaa
