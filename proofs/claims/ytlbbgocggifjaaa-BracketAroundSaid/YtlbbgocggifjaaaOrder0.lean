/- Two places in order: span.Order. Conditions: none. -/
import Derived.Test.YtlbbgocggifjaaaPos0
namespace Go.Proofs.Ytlbbgocggifjaaa
open Go.RowKit

set_option maxHeartbeats 400000 in
theorem order_any (a b c d : Int) (w : World) :
    Calls Try.prog 91 #[.agg #[.int .i64 a, .int .i64 b], .agg #[.int .i64 c, .int .i64 d]] w fun e w' =>
      e = .returned (.tuple #[.agg #[.int .i64 (ordB a b c d).1, .int .i64 (ordB a b c d).2.1], .agg #[.int .i64 (ordB a b c d).2.2.1, .int .i64 (ordB a b c d).2.2.2]]) ∧ Below w.heap.size w w' := by
  cases hb : lessB c d a b with
  | true =>
    have hy := Lib.hid (ordB_yes hb)
    go_enter Try.func91, Try.ntmps91
    go_wp2_with (go_at_call 95; refine (less_any _ _ _ _ _).mono ?_; rintro e w1 ⟨rfl, hbl⟩; obtain ⟨x, rfl⟩ := ovr_of_below hbl; clear hbl)
    go_region
    go_wp2
    refine bodyPost_ret (v := .tuple #[.agg #[.int .i64 c, .int .i64 d], .agg #[.int .i64 a, .int .i64 b]]) (by simp [results, Try.results91, go_sem]) rfl ⟨ret_val (by rw [hy.out]), by (repeat (first | exact Below.refl _ _ | refine Below.alloc ?_ (by first | exact Nat.le_refl _ | (simp; done) | (simp; omega)) _ | refine below_ovr_of ?_ | refine drew_below ?_ _ | refine Below.drew ?_ | refine Below.setCell ?_ (by first | exact Nat.le_refl _ | (simp; done) | (simp; omega)) _ | assumption))⟩
  | false =>
    have hy := Lib.hid (ordB_no hb)
    go_enter Try.func91, Try.ntmps91
    go_wp2_with (go_at_call 95; refine (less_any _ _ _ _ _).mono ?_; rintro e w1 ⟨rfl, hbl⟩; obtain ⟨x, rfl⟩ := ovr_of_below hbl; clear hbl)
    go_region
    go_wp2
    refine bodyPost_ret (v := .tuple #[.agg #[.int .i64 a, .int .i64 b], .agg #[.int .i64 c, .int .i64 d]]) (by simp [results, Try.results91, go_sem]) rfl ⟨ret_val (by rw [hy.out]), by (repeat (first | exact Below.refl _ _ | refine Below.alloc ?_ (by first | exact Nat.le_refl _ | (simp; done) | (simp; omega)) _ | refine below_ovr_of ?_ | refine drew_below ?_ _ | refine Below.drew ?_ | refine Below.setCell ?_ (by first | exact Nat.le_refl _ | (simp; done) | (simp; omega)) _ | assumption))⟩

end Go.Proofs.Ytlbbgocggifjaaa
