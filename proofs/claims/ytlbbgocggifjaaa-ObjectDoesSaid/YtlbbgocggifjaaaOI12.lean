/- What the laws' walks share: a place of two numbers, names of blocks. Conditions: none. -/
import Derived.Test.YtlbbgocggifjaaaOI8
import Derived.Deep.RegionHeld3
namespace Go.Proofs.Ytlbbgocggifjaaa
open Go.RowKit

theorem seat_at (a : Option Addr) (cap : Nat) (L : List ByteArray) (x y : Int) (w : World) (hL : LinesAt w a L) (h0 : 0 < L.length) (hx : 0 ≤ x ∧ x ≤ 65535) (hy : 0 ≤ y ∧ y ≤ 65535) {l c : Int} (hl : Hid (seatL L x = l)) (hc : Hid (seatC L x y = c)) :
    Calls Try.prog 31 #[.slice a L.length cap, .int .u16 x, .int .u16 y] w fun e w' => e = .returned (.agg #[.int .i64 l, .int .i64 c]) ∧ Below w.heap.size w w' := by
  have := seat_any a cap L x y w hL h0 hx hy
  rw [hl.out, hc.out] at this
  exact this
/-- The block of a literal slice in slot t, under a name; the world too. -/
theorem name_block {P : Program} {c : Code} {Q : Exit → Act → World → Prop} {a : Act} {w : World} (t : Nat) {b n m : Nat} (_h : a.tmps.getD t undef = Value.slice (some ⟨b, 0, none⟩) n m) (k : ∀ W0 B, W0 = w → B = b → c.wp P Q a W0) : c.wp P Q a w := k w b rfl rfl
theorem name_ptr {P : Program} {c : Code} {Q : Exit → Act → World → Prop} {a : Act} {w : World} (t : Nat) {b : Nat} (_h : a.tmps.getD t undef = Value.pointer (some ⟨b, 0, none⟩)) (k : ∀ B, B = b → c.wp P Q a w) : c.wp P Q a w := k b rfl
theorem cell_keep9 {w w' : World} {b o : Nat} {v : Value} (hb : Below w.heap.size w w') (h : w.cell? ⟨b, o, none⟩ = some v) : w'.cell? ⟨b, o, none⟩ = some v :=
  (hb.cell (p := ⟨b, o, none⟩) (World.block_lt_of_cell? w _ h)).trans h
theorem cell_lt9 {w : World} {b o : Nat} {v : Value} (h : w.cell? ⟨b, o, none⟩ = some v) : b < w.heap.size := World.block_lt_of_cell? w _ h

theorem sizes_le {L : List ByteArray} (h : total L ≤ 1200) : ∀ s ∈ L, s.size ≤ 100000 := by
  intro s hs
  obtain ⟨i, hi, rfl⟩ := List.getElem_of_mem hs
  have := size_le_total L i hi
  rw [List.getD_eq_getElem?_getD, List.getElem?_eq_getElem hi] at this
  simp at this
  omega
end Go.Proofs.Ytlbbgocggifjaaa
