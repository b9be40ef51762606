/- The contracts of places: Text, Place, Less, Order, and where numbers lead in a text. Conditions: none beyond what each says. -/
import Derived.Test.YtlbbgocggifjaaaBase0
namespace Go.Proofs.Ytlbbgocggifjaaa
open Go.RowKit

set_option maxHeartbeats 400000 in
theorem text_any (a : Option Addr) (c : Nat) (L : List ByteArray) (w : World) (hL : LinesAt w a L) :
    Calls Try.prog 30 #[.slice a L.length c] w fun e w' => e = .returned (.bool (textB L)) ∧ w = w' := by
  by_cases h0 : L.length = 0
  · have hd : decide ((0 : Int) < (L.length : Int)) = false := decide_eq_false (by omega)
    have hy := Lib.hid (text_no (L := L) (fun h => by omega))
    go_enter Try.func30, Try.ntmps30
    go_wp2
    go_ret
    exact ⟨ret_bool (by rw [hy.out]), rfl⟩
  · have hd : (0 : Int) < (L.length : Int) := by omega
    have hy := Lib.hid (text_eq (L := L) (by omega))
    go_enter Try.func30, Try.ntmps30
    go_wp2_with (go_at_call 22; refine (light_any _ _ _ _ hL).mono ?_; rintro e w1 ⟨rfl, rfl⟩)
    go_ret
    exact ⟨ret_bool (by rw [hy.out]), rfl⟩

set_option maxHeartbeats 400000 in
theorem place_any (a : Option Addr) (cap : Nat) (L : List ByteArray) (l c : Int) (w : World) (hL : LinesAt w a L) :
    Calls Try.prog 109 #[.slice a L.length cap, .agg #[.int .i64 l, .int .i64 c]] w fun e w' => e = .returned (.bool (plcB L l c)) ∧ Below w.heap.size w w' := by
  have hn := hL.2.1
  by_cases h1 : 0 ≤ l
  · by_cases h2 : l < L.length
    · by_cases h3 : 0 ≤ c
      · obtain ⟨b, off, rfl, hb, hc, hs⟩ := hL.line (i := l.toNat) (by omega)
        have hy := Lib.hid (plcB_in (L := L) h1 h2 h3)
        generalize L.getD l.toNat .empty = s at hc hs hy
        go_enter Try.func109, Try.ntmps109
        go_wp2
        go_quiet (fail)
        go_wp2
        go_ret
        exact ⟨ret_bool (by rw [hy.out]), by (repeat (first | exact Below.refl _ _ | refine Below.alloc ?_ (by first | exact Nat.le_refl _ | (simp; done) | (simp; omega)) _ | refine below_ovr_of ?_ | refine drew_below ?_ _ | refine Below.drew ?_ | refine Below.setCell ?_ (by first | exact Nat.le_refl _ | (simp; done) | (simp; omega)) _ | assumption))⟩
      · have hd : decide (0 ≤ c) = false := decide_eq_false h3
        have hy := Lib.hid (plcB_out (L := L) (l := l) (c := c) (fun h => h3 h.2.2.1))
        go_enter Try.func109, Try.ntmps109
        go_wp2
        go_quiet (fail)
        go_wp2
        go_ret
        exact ⟨ret_bool (by rw [hy.out]), by (repeat (first | exact Below.refl _ _ | refine Below.alloc ?_ (by first | exact Nat.le_refl _ | (simp; done) | (simp; omega)) _ | refine below_ovr_of ?_ | refine drew_below ?_ _ | refine Below.drew ?_ | refine Below.setCell ?_ (by first | exact Nat.le_refl _ | (simp; done) | (simp; omega)) _ | assumption))⟩
    · have hd : decide (l < (L.length : Int)) = false := decide_eq_false h2
      have hy := Lib.hid (plcB_out (L := L) (l := l) (c := c) (fun h => h2 h.2.1))
      go_enter Try.func109, Try.ntmps109
      go_wp2
      go_quiet (fail)
      go_wp2
      go_ret
      exact ⟨ret_bool (by rw [hy.out]), by (repeat (first | exact Below.refl _ _ | refine Below.alloc ?_ (by first | exact Nat.le_refl _ | (simp; done) | (simp; omega)) _ | refine below_ovr_of ?_ | refine drew_below ?_ _ | refine Below.drew ?_ | refine Below.setCell ?_ (by first | exact Nat.le_refl _ | (simp; done) | (simp; omega)) _ | assumption))⟩
  · have hd : decide (0 ≤ l) = false := decide_eq_false h1
    have hy := Lib.hid (plcB_out (L := L) (l := l) (c := c) (fun h => h1 h.1))
    go_enter Try.func109, Try.ntmps109
    go_wp2
    go_quiet (fail)
    go_wp2
    go_ret
    exact ⟨ret_bool (by rw [hy.out]), by (repeat (first | exact Below.refl _ _ | refine Below.alloc ?_ (by first | exact Nat.le_refl _ | (simp; done) | (simp; omega)) _ | refine below_ovr_of ?_ | refine drew_below ?_ _ | refine Below.drew ?_ | refine Below.setCell ?_ (by first | exact Nat.le_refl _ | (simp; done) | (simp; omega)) _ | assumption))⟩

set_option maxHeartbeats 400000 in
theorem seat_any (a : Option Addr) (cap : Nat) (L : List ByteArray) (x y : Int) (w : World) (hL : LinesAt w a L) (h0 : 0 < L.length) (hx : 0 ≤ x ∧ x ≤ 65535) (hy : 0 ≤ y ∧ y ≤ 65535) :
    Calls Try.prog 31 #[.slice a L.length cap, .int .u16 x, .int .u16 y] w fun e w' =>
      e = .returned (.agg #[.int .i64 (seatL L x), .int .i64 (seatC L x y)]) ∧ Below w.heap.size w w' := by
  have hn := hL.2.1
  obtain ⟨hx0, hx1⟩ := hx
  obtain ⟨hy0, hy1⟩ := hy
  have hl := seatL_in (L := L) (x := x) h0 hx0
  have hc := seatC_eq L x y
  have hll := seatL_eq L x
  obtain ⟨b, off, rfl, hb, hcell, hs⟩ := hL.line (i := (seatL L x).toNat) (by omega)
  generalize L.getD (seatL L x).toNat .empty = s at hcell hs hc
  rw [hll] at hcell hl
  have HC := Lib.hid hc
  have HLL := Lib.hid hll
  clear hc hll
  obtain ⟨hl0, hl1⟩ := hl
  go_enter Try.func31, Try.ntmps31
  go_wp2
  rw [HC.out, HLL.out]
  refine bodyPost_ret (v := .agg #[.int .i64 (x % ↑L.length), .int .i64 (y % (↑s.size + 1))]) (by simp [results, Try.results31, go_sem]) rfl ⟨rfl, by (repeat (first | exact Below.refl _ _ | refine Below.alloc ?_ (by first | exact Nat.le_refl _ | (simp; done) | (simp; omega)) _ | refine below_ovr_of ?_ | refine drew_below ?_ _ | refine Below.drew ?_ | refine Below.setCell ?_ (by first | exact Nat.le_refl _ | (simp; done) | (simp; omega)) _ | assumption))⟩

set_option maxHeartbeats 400000 in
theorem less_any (a b c d : Int) (w : World) :
    Calls Try.prog 95 #[.agg #[.int .i64 a, .int .i64 b], .agg #[.int .i64 c, .int .i64 d]] w fun e w' => e = .returned (.bool (lessB a b c d)) ∧ Below w.heap.size w w' := by
  have hy := Lib.hid (lessB_eq a b c d)
  go_enter Try.func95, Try.ntmps95
  go_wp2
  all_goals (go_ret; exact ⟨ret_bool (by rw [hy.out, Bool.eq_iff_iff]; simp; omega), by (repeat (first | exact Below.refl _ _ | refine Below.alloc ?_ (by first | exact Nat.le_refl _ | (simp; done) | (simp; omega)) _ | refine below_ovr_of ?_ | refine drew_below ?_ _ | refine Below.drew ?_ | refine Below.setCell ?_ (by first | exact Nat.le_refl _ | (simp; done) | (simp; omega)) _ | assumption))⟩)

theorem rless_any (a b c d : Int) (w : World) :
    Calls Try.prog 72 #[.agg #[.int .i64 a, .int .i64 b], .agg #[.int .i64 c, .int .i64 d]] w fun e w' => e = .returned (.bool (lessB a b c d)) ∧ Below w.heap.size w w' := by
  have hy := Lib.hid (lessB_eq a b c d)
  go_enter Try.func72, Try.ntmps72
  go_wp2
  all_goals (go_ret; exact ⟨ret_bool (by rw [hy.out, Bool.eq_iff_iff]; simp; omega), by (repeat (first | exact Below.refl _ _ | refine Below.alloc ?_ (by first | exact Nat.le_refl _ | (simp; done) | (simp; omega)) _ | refine below_ovr_of ?_ | refine drew_below ?_ _ | refine Below.drew ?_ | refine Below.setCell ?_ (by first | exact Nat.le_refl _ | (simp; done) | (simp; omega)) _ | assumption))⟩)

/-! The class of a place's function in the references: the same text as the program's. -/
set_option maxHeartbeats 400000 in
theorem rplace_any (a : Option Addr) (cap : Nat) (L : List ByteArray) (l c : Int) (w : World) (hL : LinesAt w a L) :
    Calls Try.prog 52 #[.slice a L.length cap, .agg #[.int .i64 l, .int .i64 c]] w fun e w' => e = .returned (.bool (plcB L l c)) ∧ Below w.heap.size w w' := by
  have hn := hL.2.1
  by_cases h1 : 0 ≤ l
  · by_cases h2 : l < L.length
    · by_cases h3 : 0 ≤ c
      · obtain ⟨b, off, rfl, hb, hc, hs⟩ := hL.line (i := l.toNat) (by omega)
        have hy := Lib.hid (plcB_in (L := L) h1 h2 h3)
        generalize L.getD l.toNat .empty = s at hc hs hy
        go_enter Try.func52, Try.ntmps52
        go_wp2
        go_quiet (fail)
        go_wp2
        go_ret
        exact ⟨ret_bool (by rw [hy.out]), by (repeat (first | exact Below.refl _ _ | refine Below.alloc ?_ (by first | exact Nat.le_refl _ | (simp; done) | (simp; omega)) _ | refine below_ovr_of ?_ | refine drew_below ?_ _ | refine Below.drew ?_ | refine Below.setCell ?_ (by first | exact Nat.le_refl _ | (simp; done) | (simp; omega)) _ | assumption))⟩
      · have hd : decide (0 ≤ c) = false := decide_eq_false h3
        have hy := Lib.hid (plcB_out (L := L) (l := l) (c := c) (fun h => h3 h.2.2.1))
        go_enter Try.func52, Try.ntmps52
        go_wp2
        go_quiet (fail)
        go_wp2
        go_ret
        exact ⟨ret_bool (by rw [hy.out]), by (repeat (first | exact Below.refl _ _ | refine Below.alloc ?_ (by first | exact Nat.le_refl _ | (simp; done) | (simp; omega)) _ | refine below_ovr_of ?_ | refine drew_below ?_ _ | refine Below.drew ?_ | refine Below.setCell ?_ (by first | exact Nat.le_refl _ | (simp; done) | (simp; omega)) _ | assumption))⟩
    · have hd : decide (l < (L.length : Int)) = false := decide_eq_false h2
      have hy := Lib.hid (plcB_out (L := L) (l := l) (c := c) (fun h => h2 h.2.1))
      go_enter Try.func52, Try.ntmps52
      go_wp2
      go_quiet (fail)
      go_wp2
      go_ret
      exact ⟨ret_bool (by rw [hy.out]), by (repeat (first | exact Below.refl _ _ | refine Below.alloc ?_ (by first | exact Nat.le_refl _ | (simp; done) | (simp; omega)) _ | refine below_ovr_of ?_ | refine drew_below ?_ _ | refine Below.drew ?_ | refine Below.setCell ?_ (by first | exact Nat.le_refl _ | (simp; done) | (simp; omega)) _ | assumption))⟩
  · have hd : decide (0 ≤ l) = false := decide_eq_false h1
    have hy := Lib.hid (plcB_out (L := L) (l := l) (c := c) (fun h => h1 h.1))
    go_enter Try.func52, Try.ntmps52
    go_wp2
    go_quiet (fail)
    go_wp2
    go_ret
    exact ⟨ret_bool (by rw [hy.out]), by (repeat (first | exact Below.refl _ _ | refine Below.alloc ?_ (by first | exact Nat.le_refl _ | (simp; done) | (simp; omega)) _ | refine below_ovr_of ?_ | refine drew_below ?_ _ | refine Below.drew ?_ | refine Below.setCell ?_ (by first | exact Nat.le_refl _ | (simp; done) | (simp; omega)) _ | assumption))⟩
end Go.Proofs.Ytlbbgocggifjaaa
