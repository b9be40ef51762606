/- The plain words of objects: places of bytes, ranges. Conditions: none. -/
import Derived.Test.YtlbbgocggifjaaaAreaP
namespace Go.Proofs.Ytlbbgocggifjaaa
open Go.RowKit

abbrev rngV (r : Rng × Bool) : Value := .tuple #[.agg #[.int .i64 r.1.1, .int .i64 r.1.2.1, .int .i64 r.1.2.2.1, .int .i64 r.1.2.2.2.1, .int .i64 r.1.2.2.2.2], .bool r.2]
attribute [go_sem] rngV
def noR : Rng × Bool := ((0, 0, 0, 0, 0), false)
/-- Is (l, c) a byte's place, or an empty line's beginning? -/
def byteB (L : List ByteArray) (l c : Int) : Bool := plcB L l c && (decide (c < ((ln L l).size : Int)) || decide ((ln L l).size = 0))
theorem byteB_no {L : List ByteArray} {l c : Int} (h : plcB L l c = false) : byteB L l c = false := by rw [byteB, h]; rfl
theorem byteB_yes {L : List ByteArray} {l c : Nat} {s : ByteArray} (h : plcB L l c = true) (hs : L.getD l .empty = s) : byteB L l c = (decide ((c : Int) < (s.size : Int)) || decide (s.size = 0)) := by
  rw [byteB, h, ln, Int.toNat_natCast, hs]; rfl
theorem rng_ways (r : Rng × Bool) : ∃ k a b c d ok, r = ((k, a, b, c, d), ok) := by
  obtain ⟨⟨k, a, b, c, d⟩, ok⟩ := r
  exact ⟨k, a, b, c, d, ok, rfl⟩
end Go.Proofs.Ytlbbgocggifjaaa
