/- Layer 12: the reference's search at any place, the chapter's example, the comparison of motions. Conditions: none beyond what each says. -/
import Derived.Test.YtnaceobbbfbhhaaRSearch
import Derived.Test.YtnaceobbbfbhhaaSearch
import Derived.Test.YtnaceobbbfbhhaaFWord2
import Derived.Test.YtnaceobbbfbhhaaLawKit
namespace Go.Proofs.Ytnaceobbbfbhhaa
open Go.RowKit

set_option maxRecDepth 100000 in
set_option maxHeartbeats 2000000 in
theorem rsearch_any (a : Option Addr) (cap : Nat) (L : List ByteArray) (pl pc n : Int) (t : ByteArray) (back : Bool) (w : World) (hL : LinesAt w a L) (htot : L.length + total L ≤ 100000) (ht : t.size ≤ 100000) (hn2 : n ≤ 9223372036854775807) :
    Calls Try.prog 44 #[.slice a L.length cap, .agg #[.int .i64 pl, .int .i64 pc], .string t, .bool back, .int .i64 n] w fun e w' => e = .returned (movV (searchP L pl pc t back n)) ∧ Below w.heap.size w w' := by
  have hn := hL.2.1
  by_cases h : plcB L pl pc = true ∧ 1 ≤ n
  · obtain ⟨hp, h1⟩ := h
    obtain ⟨p1, p2, p3, p4⟩ := plcB_spec hp
    obtain ⟨l, rfl⟩ := Int.eq_ofNat_of_zero_le p1
    obtain ⟨c, rfl⟩ := Int.eq_ofNat_of_zero_le p3
    cases back with
    | false => exact rsearch_fwd a cap L l c n t w hL htot ht hp h1 hn2
    | true => exact rsearch_bwd a cap L l c n t w hL htot ht hp h1 hn2
  · have HR := Lib.hid (show searchP L pl pc t back n = noMov by rw [searchP, if_neg (fun h' => h ⟨h'.1, h'.2.1⟩)])
    have HQ : Hid ((plcB L pl pc && decide (1 ≤ n)) = false) := Lib.hid (by
      rw [Bool.eq_false_iff]; intro e; simp only [Bool.and_eq_true, decide_eq_true_eq] at e; exact h e)
    have HRA := Lib.hid (fun (w0 : World) (h0 : LinesAt w0 a L) => rall_any a cap L t w0 h0 htot ht)
    clear h
    go_enter Try.func44, Try.ntmps44
    go_wp2_with (first | (go_at_call 41; refine (HRA.out _ (by (repeat (first | assumption | refine LinesAt.ovr ?_ _ | refine LinesAt.alloc ?_ _ | refine LinesAt.drewN ?_ _ | refine LinesAt.drew ?_)))).mono ?_; rintro e1 w1 ⟨v, rfl, hrow, hbl⟩; obtain ⟨sa, scap, rfl, _⟩ := pairs_of_owns hrow; obtain ⟨y1, rfl⟩ := ovr_of_below hbl; clear hbl hrow) | (go_at_call 85; refine (rmay_at _ _ L _ _ _ _ (by (repeat (first | assumption | refine LinesAt.ovr ?_ _ | refine LinesAt.alloc ?_ _ | refine LinesAt.drewN ?_ _ | refine LinesAt.drew ?_))) HQ).mono ?_; rintro e w1 ⟨rfl, hbl⟩; obtain ⟨x, rfl⟩ := ovr_of_below hbl; clear hbl) | (go_at_call 86; refine (rnone_any _).mono ?_; rintro e w1 ⟨rfl, hbl⟩; obtain ⟨x, rfl⟩ := ovr_of_below hbl; clear hbl))
    refine bodyPost_ret (v := movV noMov) (by simp [results, Try.results44, go_sem, noMov]) rfl ⟨by rw [HR.out], by (repeat (first | with_reducible exact Below.refl _ _ | (with_reducible refine Below.setCell ?_ ?_ _; rotate_left; · (first | exact Nat.le_refl _ | assumption | omega | (simp; done) | (simp; omega))) | (with_reducible refine Below.alloc ?_ ?_ _; rotate_left; · (first | exact Nat.le_refl _ | assumption | omega | (simp; done) | (simp; omega))) | with_reducible refine below_ovr_of ?_ | with_reducible refine drew_below ?_ _ | with_reducible refine Below.drew ?_ | with_reducible assumption))⟩

abbrev L12 : List ByteArray := [⟨#[97, 97, 97]⟩, ⟨#[98, 97]⟩]
theorem known12_a : allP L12 ⟨#[97, 97]⟩ = [(0, 0), (0, 1)] := by
  rw [allP, if_neg (by decide), fAll_on (s := ⟨#[97, 97, 97]⟩) (by decide) rfl, fRow_yes (by decide) (by rw [hasB_list]; decide), fRow_yes (by decide) (by rw [hasB_list]; decide), fRow_no (by decide) (by rw [hasB_list]; decide), fRow_end (by decide), fAll_on (s := ⟨#[98, 97]⟩) (by decide) rfl, fRow_no (by decide) (by rw [hasB_list]; decide), fRow_no (by decide) (by rw [hasB_list]; decide), fRow_end (by decide), fAll_end (by decide)]
  rfl
theorem known12_b : allP L12 ⟨#[97]⟩ = [(0, 0), (0, 1), (0, 2), (1, 1)] := by
  rw [allP, if_neg (by decide), fAll_on (s := ⟨#[97, 97, 97]⟩) (by decide) rfl, fRow_yes (by decide) (by rw [hasB_list]; decide), fRow_yes (by decide) (by rw [hasB_list]; decide), fRow_yes (by decide) (by rw [hasB_list]; decide), fRow_end (by decide), fAll_on (s := ⟨#[98, 97]⟩) (by decide) rfl, fRow_no (by decide) (by rw [hasB_list]; decide), fRow_yes (by decide) (by rw [hasB_list]; decide), fRow_end (by decide), fAll_end (by decide)]
  rfl
theorem known12_z : allP L12 ⟨#[122, 122]⟩ = [] := by
  rw [allP, if_neg (by decide), fAll_on (s := ⟨#[97, 97, 97]⟩) (by decide) rfl, fRow_no (by decide) (by rw [hasB_list]; decide), fRow_no (by decide) (by rw [hasB_list]; decide), fRow_no (by decide) (by rw [hasB_list]; decide), fRow_end (by decide), fAll_on (s := ⟨#[98, 97]⟩) (by decide) rfl, fRow_no (by decide) (by rw [hasB_list]; decide), fRow_no (by decide) (by rw [hasB_list]; decide), fRow_end (by decide), fAll_end (by decide)]
  rfl
theorem known12_1 : searchP L12 0 0 ⟨#[97, 97]⟩ false 1 = ((0, 1, 0, true, -1), true) := by
  rw [searchP, known12_a, if_pos ⟨by decide, by decide, by decide⟩]
  decide
theorem known12_2 : searchP L12 0 0 ⟨#[97]⟩ true 1 = ((1, 1, 0, true, -1), true) := by
  rw [searchP, known12_b, if_pos ⟨by decide, by decide, by decide⟩]
  decide
theorem known12_4 : searchP L12 0 0 ⟨#[122, 122]⟩ false 1 = ((0, 0, 0, false, 0), false) := by
  rw [searchP, known12_z, if_neg (fun h => h.2.2 rfl)]
  rfl
abbrev K12 : List ByteArray := [⟨#[32, 32, 102, 111, 111, 32, 98, 97, 114]⟩]
theorem known12_3 : wordW K12 0 0 = ((0, 2), ⟨#[102, 111, 111]⟩, true) := by
  have h1 : wFrom ⟨#[32, 32, 102, 111, 111, 32, 98, 97, 114]⟩ 0 = 2 := by
    rw [wFrom_no (by decide) (by decide), wFrom_no (by decide) (by decide), wFrom_yes (by decide)]
  have h2 : wBack ⟨#[32, 32, 102, 111, 111, 32, 98, 97, 114]⟩ 2 = 2 := by decide
  have h3 : wEnd ⟨#[32, 32, 102, 111, 111, 32, 98, 97, 114]⟩ 2 = 5 := by
    rw [wEnd_yes (by decide) (by decide), wEnd_yes (by decide) (by decide), wEnd_yes (by decide) (by decide), wEnd_no (by decide)]
  have h4 : ln K12 0 = ⟨#[32, 32, 102, 111, 111, 32, 98, 97, 114]⟩ := rfl
  rw [wordW, if_pos (by decide), h4, show (0 : Int).toNat = 0 from rfl, h1, if_pos (by decide), h2, h3]
  rfl
set_option maxRecDepth 100000 in
set_option maxHeartbeats 2000000 in
theorem known12_any (w : World) : Calls Try.prog 37 #[] w fun e w' => e = .returned (.bool true) ∧ Below w.heap.size w w' := by
  have hl : LinesAt (w.alloc (.cells #[.string ⟨#[97, 97, 97]⟩, .string ⟨#[98, 97]⟩] 9)) (some ⟨w.heap.size, 0, none⟩) L12 := lines_new _ _ _ (by decide) (by decide) rfl rfl
  go_enter Try.func37, Try.ntmps37
  go_wp2_with fail
  go_at_call 43; refine (psearch_any _ _ L12 _ _ _ _ _ _ (by (repeat (first | assumption | refine LinesAt.ovr ?_ _ | refine LinesAt.alloc ?_ _ | refine LinesAt.drewN ?_ _ | refine LinesAt.drew ?_))) (by decide) (by decide) (by decide)).mono ?_; rw [known12_1]; rintro e w1 ⟨rfl, hbl⟩; obtain ⟨x1, rfl⟩ := ovr_of_below hbl; clear hbl
  go_wp2_with fail
  go_at_call 43; refine (psearch_any _ _ L12 _ _ _ _ _ _ (by (repeat (first | assumption | refine LinesAt.ovr ?_ _ | refine LinesAt.alloc ?_ _ | refine LinesAt.drewN ?_ _ | refine LinesAt.drew ?_))) (by decide) (by decide) (by decide)).mono ?_; rw [known12_2]; rintro e w1 ⟨rfl, hbl⟩; obtain ⟨x2, rfl⟩ := ovr_of_below hbl; clear hbl
  go_wp2_with fail
  go_at_call 46; refine (pword_any _ _ K12 _ _ _ (lines_new _ _ _ (by decide) (by decide) rfl (by simp))).mono ?_; rw [known12_3]; rintro e w1 ⟨rfl, hbl⟩; obtain ⟨x3, rfl⟩ := ovr_of_below hbl; clear hbl
  go_wp2_with fail
  go_at_call 43; refine (psearch_any _ _ L12 _ _ _ _ _ _ (by (repeat (first | assumption | refine LinesAt.ovr ?_ _ | refine LinesAt.alloc ?_ _ | refine LinesAt.drewN ?_ _ | refine LinesAt.drew ?_))) (by decide) (by decide) (by decide)).mono ?_; rw [known12_4]; rintro e w1 ⟨rfl, hbl⟩; obtain ⟨x4, rfl⟩ := ovr_of_below hbl; clear hbl
  go_wp2
  go_ret
  exact ⟨by simp, by (repeat (first | with_reducible exact Below.refl _ _ | (with_reducible refine Below.setCell ?_ ?_ _; rotate_left; · (first | exact Nat.le_refl _ | assumption | omega | (simp; done) | (simp; omega))) | (with_reducible refine Below.alloc ?_ ?_ _; rotate_left; · (first | exact Nat.le_refl _ | assumption | omega | (simp; done) | (simp; omega))) | with_reducible refine below_ovr_of ?_ | with_reducible refine drew_below ?_ _ | with_reducible refine Below.drew ?_ | with_reducible assumption))⟩
/-- A motion held against itself. -/
theorem same12_any (a b c : Int) (j : Bool) (t : Int) (ok : Bool) (w : World) :
    Calls Try.prog 45 #[.agg #[.int .i64 a, .int .i64 b, .int .i64 c, .bool j, .int .i64 t], .bool ok, .agg #[.int .i64 a, .int .i64 b, .int .i64 c, .bool j, .int .i64 t], .bool ok] w fun e w' =>
      e = .returned (.bool true) ∧ Below w.heap.size w w' := by
  go_enter Try.func45, Try.ntmps45
  go_wp2
  go_ret
  exact ⟨ret_bool (by simp), by (repeat (first | exact Below.refl _ _ | refine Below.alloc ?_ (by first | exact Nat.le_refl _ | (simp; done) | (simp; omega)) _ | refine below_ovr_of ?_ | refine drew_below ?_ _ | refine Below.drew ?_ | refine Below.setCell ?_ (by first | exact Nat.le_refl _ | (simp; done) | (simp; omega)) _ | assumption))⟩
end Go.Proofs.Ytnaceobbbfbhhaa
