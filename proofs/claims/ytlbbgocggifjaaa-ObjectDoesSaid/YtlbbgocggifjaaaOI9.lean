/- Motions as values; the references' may and none. Conditions: none beyond what each says. -/
import Derived.Test.YtlbbgocggifjaaaOI7
import Derived.Test.YtlbbgocggifjaaaOI8
namespace Go.Proofs.Ytlbbgocggifjaaa
open Go.RowKit

/-- A motion's value. -/
abbrev movV (r : Mov × Bool) : Value := .tuple #[.agg #[.int .i64 r.1.1, .int .i64 r.1.2.1, .int .i64 r.1.2.2.1, .bool r.1.2.2.2.1, .int .i64 r.1.2.2.2.2], .bool r.2]
attribute [go_sem] movV
theorem movV_eq (a b c : Int) (j : Bool) (t : Int) (ok : Bool) : movV ((a, b, c, j, t), ok) = .tuple #[.agg #[.int .i64 a, .int .i64 b, .int .i64 c, .bool j, .int .i64 t], .bool ok] := rfl
/-- What a place and a count come to. -/
theorem may_ways (L : List ByteArray) (pl pc n : Int) : (Hid ((plcB L pl pc && decide (1 ≤ n)) = false) ∧ ¬ (plcB L pl pc = true ∧ 1 ≤ n)) ∨ (Hid ((plcB L pl pc && decide (1 ≤ n)) = true) ∧ plcB L pl pc = true ∧ 1 ≤ n) := by
  by_cases h : plcB L pl pc = true ∧ 1 ≤ n
  · right; exact ⟨Lib.hid (by simp [h.1, h.2]), h⟩
  · left; refine ⟨Lib.hid ?_, h⟩
    rw [Bool.eq_false_iff]; intro e; simp at e; exact h e

set_option maxHeartbeats 1000000 in
theorem rmay_any (a : Option Addr) (cap : Nat) (L : List ByteArray) (pl pc n : Int) (w : World) (hL : LinesAt w a L) :
    Calls Try.prog 111 #[.slice a L.length cap, .agg #[.int .i64 pl, .int .i64 pc], .int .i64 n] w fun e w' =>
      e = .returned (.bool (plcB L pl pc && decide (1 ≤ n))) ∧ Below w.heap.size w w' := by
  cases hp : plcB L pl pc with
  | false =>
    go_enter Try.func111, Try.ntmps111
    go_wp2_with (go_at_call 52; refine (rplace_any _ _ L _ _ _ (by (repeat (first | assumption | refine LinesAt.ovr ?_ _ | refine LinesAt.alloc ?_ _ | refine LinesAt.drewN ?_ _ | refine LinesAt.drew ?_)))).mono ?_; rintro e w1 ⟨rfl, hbl⟩; obtain ⟨x, rfl⟩ := ovr_of_below hbl; clear hbl)
    go_ret
    exact ⟨rfl, by (repeat (first | exact Below.refl _ _ | refine Below.alloc ?_ (by first | exact Nat.le_refl _ | (simp; done) | (simp; omega)) _ | refine below_ovr_of ?_ | refine drew_below ?_ _ | refine Below.drew ?_ | refine Below.setCell ?_ (by first | exact Nat.le_refl _ | (simp; done) | (simp; omega)) _ | assumption))⟩
  | true =>
    go_enter Try.func111, Try.ntmps111
    go_wp2_with (go_at_call 52; refine (rplace_any _ _ L _ _ _ (by (repeat (first | assumption | refine LinesAt.ovr ?_ _ | refine LinesAt.alloc ?_ _ | refine LinesAt.drewN ?_ _ | refine LinesAt.drew ?_)))).mono ?_; rintro e w1 ⟨rfl, hbl⟩; obtain ⟨x, rfl⟩ := ovr_of_below hbl; clear hbl)
    go_ret
    exact ⟨ret_bool (by simp), by (repeat (first | exact Below.refl _ _ | refine Below.alloc ?_ (by first | exact Nat.le_refl _ | (simp; done) | (simp; omega)) _ | refine below_ovr_of ?_ | refine drew_below ?_ _ | refine Below.drew ?_ | refine Below.setCell ?_ (by first | exact Nat.le_refl _ | (simp; done) | (simp; omega)) _ | assumption))⟩
theorem rmay_at (a : Option Addr) (cap : Nat) (L : List ByteArray) (pl pc n : Int) (w : World) (hL : LinesAt w a L) {q : Bool} (h : Hid ((plcB L pl pc && decide (1 ≤ n)) = q)) :
    Calls Try.prog 111 #[.slice a L.length cap, .agg #[.int .i64 pl, .int .i64 pc], .int .i64 n] w fun e w' => e = .returned (.bool q) ∧ Below w.heap.size w w' := by
  have := rmay_any a cap L pl pc n w hL
  rw [h.out] at this
  exact this
set_option maxHeartbeats 1000000 in
theorem rnone_any (w : World) : Calls Try.prog 112 #[] w fun e w' => e = .returned (movV noMov) ∧ Below w.heap.size w w' := by
  go_enter Try.func112, Try.ntmps112
  go_wp2
  refine bodyPost_ret (v := movV noMov) (by simp [results, Try.results112, go_sem, noMov]) rfl ⟨rfl, by (repeat (first | exact Below.refl _ _ | refine Below.alloc ?_ (by first | exact Nat.le_refl _ | (simp; done) | (simp; omega)) _ | refine below_ovr_of ?_ | refine drew_below ?_ _ | refine Below.drew ?_ | refine Below.setCell ?_ (by first | exact Nat.le_refl _ | (simp; done) | (simp; omega)) _ | assumption))⟩

end Go.Proofs.Ytlbbgocggifjaaa
