/- Layer 7: the chapter's example, the comparison of motions. Conditions: none. -/
import Derived.Test.YtmafieomlhpdeaaChars5
import Derived.Test.YtmafieomlhpdeaaChars7
import Derived.Test.YtmafieomlhpdeaaChars13
import Derived.Test.YtmafieomlhpdeaaVertLaws
namespace Go.Proofs.Ytmafieomlhpdeaa
open Go.RowKit

theorem sizes_le {L : List ByteArray} (h : total L ≤ 1200) : ∀ s ∈ L, s.size ≤ 100000 := by
  intro s hs
  obtain ⟨i, hi, rfl⟩ := List.getElem_of_mem hs
  have := size_le_total L i hi
  rw [List.getD_eq_getElem?_getD, List.getElem?_eq_getElem hi] at this
  simp at this
  omega
theorem fwdN_known : fwdN ⟨#[97, 98, 99, 98]⟩ 98 2 1 = 3 := by
  rw [fwdN_more (by decide) (by decide) (by decide), fwdN_miss (by decide) (by decide), fwdN_hit (by decide) (by decide) (by decide)]
  rfl
set_option maxHeartbeats 1000000 in
theorem known7_any (w : World) : Calls Try.prog 23 #[] w fun e w' => e = .returned (.bool true) ∧ Below w.heap.size w w' := by
  have e1 : seekP [⟨#[97, 98, 99, 98]⟩] 0 0 102 98 2 = ((0, 3, 1, false, -1), true) := by
    have h := seekP_fwd (L := [⟨#[97, 98, 99, 98]⟩]) (pl := 0) (key := 102) (c := 98) (n := 2) (pc := 0) (s := ⟨#[97, 98, 99, 98]⟩) (by decide) (by decide) (by simp) rfl fwdN_known
    exact h.trans (seekM_102 (by decide))
  have e2 : leftP [⟨#[97, 98, 99, 98]⟩] 0 0 1 = ((0, 0, 0, false, 0), false) := by decide
  have e3 : rightP [⟨#[97, 98, 99, 98]⟩] 0 3 1 true = ((0, 4, 0, false, -1), true) := by decide
  have e4 : lastP [⟨#[97, 98, 99, 98]⟩] 0 0 1 = ((0, 3, 1, false, 1073741824), true) := by decide
  have hl : LinesAt (w.alloc (.cells #[.string ⟨#[97, 98, 99, 98]⟩] 9)) (some ⟨w.heap.size, 0, none⟩) [⟨#[97, 98, 99, 98]⟩] := lines_new _ _ _ (by decide) (by decide) rfl rfl
  go_enter Try.func23, Try.ntmps23
  go_wp2_with (first
    | (go_at_call 24; refine (cseek_any _ _ [⟨#[97, 98, 99, 98]⟩] _ _ _ _ _ _ (by (repeat (first | assumption | refine LinesAt.ovr ?_ _ | refine LinesAt.alloc ?_ _ | refine LinesAt.drewN ?_ _ | refine LinesAt.drew ?_))) (by decide)).mono ?_; rintro e w1 ⟨rfl, hbl⟩; obtain ⟨x1, rfl⟩ := ovr_of_below hbl; clear hbl)
    | (go_at_call 28; refine (cleft_any _ _ [⟨#[97, 98, 99, 98]⟩] _ _ _ _ (by (repeat (first | assumption | refine LinesAt.ovr ?_ _ | refine LinesAt.alloc ?_ _ | refine LinesAt.drewN ?_ _ | refine LinesAt.drew ?_))) (by decide) (by decide)).mono ?_; rintro e w1 ⟨rfl, hbl⟩; obtain ⟨x1, rfl⟩ := ovr_of_below hbl; clear hbl)
    | (go_at_call 29; refine (cright_any _ _ [⟨#[97, 98, 99, 98]⟩] _ _ _ _ _ (by (repeat (first | assumption | refine LinesAt.ovr ?_ _ | refine LinesAt.alloc ?_ _ | refine LinesAt.drewN ?_ _ | refine LinesAt.drew ?_))) (by decide)).mono ?_; rintro e w1 ⟨rfl, hbl⟩; obtain ⟨x1, rfl⟩ := ovr_of_below hbl; clear hbl)
    | (go_at_call 38; refine (clast_any _ _ [⟨#[97, 98, 99, 98]⟩] _ _ _ _ (by (repeat (first | assumption | refine LinesAt.ovr ?_ _ | refine LinesAt.alloc ?_ _ | refine LinesAt.drewN ?_ _ | refine LinesAt.drew ?_))) (by decide)).mono ?_; rintro e w1 ⟨rfl, hbl⟩; obtain ⟨x1, rfl⟩ := ovr_of_below hbl; clear hbl))
  go_ret
  exact ⟨rfl, by (repeat (first | exact Below.refl _ _ | refine Below.alloc ?_ (by first | exact Nat.le_refl _ | (simp; done) | (simp; omega)) _ | refine below_ovr_of ?_ | refine drew_below ?_ _ | refine Below.drew ?_ | refine Below.setCell ?_ (by first | exact Nat.le_refl _ | (simp; done) | (simp; omega)) _ | assumption))⟩
theorem same7_any (a b c : Int) (j : Bool) (t : Int) (ok : Bool) (w : World) :
    Calls Try.prog 26 #[.agg #[.int .i64 a, .int .i64 b, .int .i64 c, .bool j, .int .i64 t], .bool ok, .agg #[.int .i64 a, .int .i64 b, .int .i64 c, .bool j, .int .i64 t], .bool ok] w fun e w' =>
      e = .returned (.bool true) ∧ Below w.heap.size w w' := by
  go_enter Try.func26, Try.ntmps26
  go_wp2
  go_ret
  exact ⟨ret_bool (by simp), by (repeat (first | exact Below.refl _ _ | refine Below.alloc ?_ (by first | exact Nat.le_refl _ | (simp; done) | (simp; omega)) _ | refine below_ovr_of ?_ | refine drew_below ?_ _ | refine Below.drew ?_ | refine Below.setCell ?_ (by first | exact Nat.le_refl _ | (simp; done) | (simp; omega)) _ | assumption))⟩
end Go.Proofs.Ytmafieomlhpdeaa
