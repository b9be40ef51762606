/- A line, by its number. Conditions: none. -/
import Derived.Test.YtlbbgocggifjaaaPos0
namespace Go.Proofs.Ytlbbgocggifjaaa
open Go.RowKit

/-- A line, by a number that is known. -/
theorem line_facts' {w : World} {a : Option Addr} {L : List ByteArray} (hL : LinesAt w a L) {i : Nat} (h : i < L.length) :
    ∃ b off s, a = some ⟨b, off, none⟩ ∧ b < w.heap.size ∧ w.cell? ⟨b, off + i, none⟩ = some (.string s) ∧ s.size ≤ 140737488351232 ∧ Hid (L.getD i .empty = s) := by
  obtain ⟨b, off, e, hb, hc, hs⟩ := hL.line h
  exact ⟨b, off, _, e, hb, hc, hs, Lib.hid rfl⟩
end Go.Proofs.Ytlbbgocggifjaaa
