/- The contracts of package area and of its reference: whole, with, Of. Conditions: none beyond what each says. -/
import Derived.Test.YtmafieomlhpdeaaAreaP
import Derived.Test.YtmafieomlhpdeaaOrder
namespace Go.Proofs.Ytmafieomlhpdeaa
open Go.RowKit

set_option maxHeartbeats 400000 in
theorem whole_any (x y : Int) (w : World) : Calls Try.prog 67 #[.int .i64 x, .int .i64 y] w fun e w' =>
    e = .returned (.tuple #[.agg #[.int .i64 1, .int .i64 x, .int .i64 0, .int .i64 y, .int .i64 0], .bool true]) ∧ Below w.heap.size w w' := by
  go_enter Try.func67, Try.ntmps67
  go_wp2
  refine bodyPost_ret (v := .tuple #[.agg #[.int .i64 1, .int .i64 x, .int .i64 0, .int .i64 y, .int .i64 0], .bool true]) (by simp [results, Try.results67, go_sem]) rfl ⟨rfl, by (repeat (first | exact Below.refl _ _ | refine Below.alloc ?_ (by first | exact Nat.le_refl _ | (simp; done) | (simp; omega)) _ | refine below_ovr_of ?_ | refine drew_below ?_ _ | refine Below.drew ?_ | refine Below.setCell ?_ (by first | exact Nat.le_refl _ | (simp; done) | (simp; omega)) _ | assumption))⟩
set_option maxHeartbeats 400000 in
theorem rwhole_any (x y : Int) (w : World) : Calls Try.prog 69 #[.int .i64 x, .int .i64 y] w fun e w' =>
    e = .returned (.agg #[.int .i64 1, .int .i64 x, .int .i64 0, .int .i64 y, .int .i64 0]) ∧ Below w.heap.size w w' := by
  go_enter Try.func69, Try.ntmps69
  go_wp2
  refine bodyPost_ret (v := .agg #[.int .i64 1, .int .i64 x, .int .i64 0, .int .i64 y, .int .i64 0]) (by simp [results, Try.results69, go_sem]) rfl ⟨rfl, by (repeat (first | exact Below.refl _ _ | refine Below.alloc ?_ (by first | exact Nat.le_refl _ | (simp; done) | (simp; omega)) _ | refine below_ovr_of ?_ | refine drew_below ?_ _ | refine Below.drew ?_ | refine Below.setCell ?_ (by first | exact Nat.le_refl _ | (simp; done) | (simp; omega)) _ | assumption))⟩

set_option maxHeartbeats 1000000 in
theorem with_any (a : Option Addr) (cap : Nat) (L : List ByteArray) (fl fc tl tc : Int) (w : World) (hL : LinesAt w a L) (hp : plcB L tl tc = true) :
    Calls Try.prog 71 #[.slice a L.length cap, .agg #[.int .i64 fl, .int .i64 fc], .agg #[.int .i64 tl, .int .i64 tc]] w fun e w' =>
      e = .returned (.agg #[.int .i64 0, .int .i64 fl, .int .i64 fc, .int .i64 tl, .int .i64 (min (tc + 1) (szI L tl))]) ∧ Below w.heap.size w w' := by
  have hn := hL.2.1
  obtain ⟨p1, p2, p3, p4⟩ := plcB_spec hp
  obtain ⟨b, off, rfl, hb, hcell, hs⟩ := hL.line (i := tl.toNat) (by omega)
  obtain ⟨s, hs'⟩ : ∃ s, L.getD tl.toNat .empty = s := ⟨_, rfl⟩
  have hz : szI L tl = (s.size : Int) := by unfold szI; rw [hs']
  rw [hs'] at hcell hs p4
  have HZ := Lib.hid hz
  clear hz hs'
  rcases (by omega : tc + 1 ≤ (s.size : Int) ∨ ((s.size : Int) < tc + 1 ∧ (s.size : Int) ≤ tc)) with h | h
  · go_enter Try.func71, Try.ntmps71
    go_wp2
    go_region
    go_wp2
    refine bodyPost_ret (v := .agg #[.int .i64 0, .int .i64 fl, .int .i64 fc, .int .i64 tl, .int .i64 (tc + 1)]) (by simp [results, Try.results71, go_sem]) rfl ⟨ret_val (by rw [HZ.out, Int.min_eq_left h]), by (repeat (first | exact Below.refl _ _ | refine Below.alloc ?_ (by first | exact Nat.le_refl _ | (simp; done) | (simp; omega)) _ | refine below_ovr_of ?_ | refine drew_below ?_ _ | refine Below.drew ?_ | refine Below.setCell ?_ (by first | exact Nat.le_refl _ | (simp; done) | (simp; omega)) _ | assumption))⟩
  · obtain ⟨h, h'⟩ := h
    go_enter Try.func71, Try.ntmps71
    go_wp2
    go_region
    go_wp2
    refine bodyPost_ret (v := .agg #[.int .i64 0, .int .i64 fl, .int .i64 fc, .int .i64 tl, .int .i64 (s.size : Int)]) (by simp [results, Try.results71, go_sem]) rfl ⟨ret_val (by rw [HZ.out, Int.min_eq_right (by omega)]), by (repeat (first | exact Below.refl _ _ | refine Below.alloc ?_ (by first | exact Nat.le_refl _ | (simp; done) | (simp; omega)) _ | refine below_ovr_of ?_ | refine drew_below ?_ _ | refine Below.drew ?_ | refine Below.setCell ?_ (by first | exact Nat.le_refl _ | (simp; done) | (simp; omega)) _ | assumption))⟩
end Go.Proofs.Ytmafieomlhpdeaa
