/- Layer 16: the chapter's example. Conditions: none. -/
import Derived.Test.YtnaikdmkabfnlaaQuote5
import Derived.Test.YtnaikdmkabfnlaaLawKit
namespace Go.Proofs.Ytnaikdmkabfnlaa
open Go.RowKit

theorem known16_q : qpF ⟨#[97, 32, 39, 98, 39, 32, 99]⟩ 39 none 0 = [(2, 4)] := by
  rw [qpF_no (by decide) (by decide), qpF_no (by decide) (by decide), qpF_open (by decide) (by decide), qpF_no (by decide) (by decide), qpF_shut (by decide) (by decide), qpF_no (by decide) (by decide), qpF_no (by decide) (by decide), qpF_end (by decide)]
theorem known16_1 : quoteP [⟨#[97, 32, 39, 98, 39, 32, 99]⟩] 0 0 39 false = ((0, 0, 3, 0, 4), true) := by
  have h := quoteP_yes (L := [⟨#[97, 32, 39, 98, 39, 32, 99]⟩]) (l := 0) (c := 0) (q := 39) (around := false) (by decide) rfl
  refine h.trans ?_
  rw [pairQ, show ([⟨#[97, 32, 39, 98, 39, 32, 99]⟩] : List ByteArray).getD 0 .empty = ⟨#[97, 32, 39, 98, 39, 32, 99]⟩ from rfl, known16_q]
  rfl
theorem known16_2 : quoteP [⟨#[97, 32, 39, 98, 39, 32, 99]⟩] 0 3 39 true = ((0, 0, 2, 0, 6), true) := by
  have h := quoteP_yes (L := [⟨#[97, 32, 39, 98, 39, 32, 99]⟩]) (l := 0) (c := 3) (q := 39) (around := true) (by decide) rfl
  refine h.trans ?_
  rw [pairQ, show ([⟨#[97, 32, 39, 98, 39, 32, 99]⟩] : List ByteArray).getD 0 .empty = ⟨#[97, 32, 39, 98, 39, 32, 99]⟩ from rfl, known16_q]
  rw [show List.find? (fun p : Nat × Nat => decide (((3 : Nat) : Int) ≤ (p.2 : Int))) [(2, 4)] = some (2, 4) from rfl, quoteO, if_pos rfl]
  have e : skipF ⟨#[97, 32, 39, 98, 39, 32, 99]⟩ (4 + 1) = 6 := by rw [skipF_on (by decide) (by decide), skipF_stop (by decide) (by decide)]
  simp only [e]
  decide
theorem known16_3 : quoteP [⟨#[97, 32, 39, 98, 39, 32, 99]⟩] 0 5 39 false = ((0, 0, 0, 0, 0), false) := by
  have h := quoteP_yes (L := [⟨#[97, 32, 39, 98, 39, 32, 99]⟩]) (l := 0) (c := 5) (q := 39) (around := false) (by decide) rfl
  refine h.trans ?_
  rw [pairQ, show ([⟨#[97, 32, 39, 98, 39, 32, 99]⟩] : List ByteArray).getD 0 .empty = ⟨#[97, 32, 39, 98, 39, 32, 99]⟩ from rfl, known16_q]
  rfl
set_option maxRecDepth 100000 in
set_option maxHeartbeats 2000000 in
theorem known16_any (w : World) : Calls Try.prog 29 #[] w fun e w' => e = .returned (.bool true) ∧ Below w.heap.size w w' := by
  have hl : LinesAt (w.alloc (.cells #[.string ⟨#[97, 32, 39, 98, 39, 32, 99]⟩] 9)) (some ⟨w.heap.size, 0, none⟩) [⟨#[97, 32, 39, 98, 39, 32, 99]⟩] := lines_new _ _ _ (by decide) (by decide) rfl rfl
  go_enter Try.func29, Try.ntmps29
  go_wp2_with fail
  go_at_call 34; refine (qinner_any _ _ [⟨#[97, 32, 39, 98, 39, 32, 99]⟩] _ _ _ _ (by (repeat (first | assumption | refine LinesAt.ovr ?_ _ | refine LinesAt.alloc ?_ _ | refine LinesAt.drewN ?_ _ | refine LinesAt.drew ?_))) (by decide)).mono ?_; rw [known16_1]; rintro e w1 ⟨rfl, hbl⟩; obtain ⟨x1, rfl⟩ := ovr_of_below hbl; clear hbl
  go_wp2_with fail
  go_at_call 36; refine (qaround_any _ _ [⟨#[97, 32, 39, 98, 39, 32, 99]⟩] _ _ _ _ (by (repeat (first | assumption | refine LinesAt.ovr ?_ _ | refine LinesAt.alloc ?_ _ | refine LinesAt.drewN ?_ _ | refine LinesAt.drew ?_))) (by decide)).mono ?_; rw [known16_2]; rintro e w1 ⟨rfl, hbl⟩; obtain ⟨x2, rfl⟩ := ovr_of_below hbl; clear hbl
  go_wp2_with fail
  go_at_call 34; refine (qinner_any _ _ [⟨#[97, 32, 39, 98, 39, 32, 99]⟩] _ _ _ _ (by (repeat (first | assumption | refine LinesAt.ovr ?_ _ | refine LinesAt.alloc ?_ _ | refine LinesAt.drewN ?_ _ | refine LinesAt.drew ?_))) (by decide)).mono ?_; rw [known16_3]; rintro e w1 ⟨rfl, hbl⟩; obtain ⟨x3, rfl⟩ := ovr_of_below hbl; clear hbl
  go_wp2
  go_ret
  exact ⟨rfl, by (repeat (first | with_reducible exact Below.refl _ _ | (with_reducible refine Below.setCell ?_ ?_ _; rotate_left; · (first | exact Nat.le_refl _ | assumption | omega | (simp; done) | (simp; omega))) | (with_reducible refine Below.alloc ?_ ?_ _; rotate_left; · (first | exact Nat.le_refl _ | assumption | omega | (simp; done) | (simp; omega))) | with_reducible refine below_ovr_of ?_ | with_reducible refine drew_below ?_ _ | with_reducible refine Below.drew ?_ | with_reducible assumption))⟩
end Go.Proofs.Ytnaikdmkabfnlaa
