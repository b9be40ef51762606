/- The contract of the reference's Enclosing. Conditions: none beyond what it says. -/
import Derived.Test.YtlbbgocggifjaaaREncl2
namespace Go.Proofs.Ytlbbgocggifjaaa
open Go.RowKit

theorem rencl_any (a : Option Addr) (cap : Nat) (L : List ByteArray) (pl pc o n : Int) (w : World) (hL : LinesAt w a L) (htot : total L ≤ 1000000) (hn2 : n ≤ 9223372036854775807) :
    Calls Try.prog 51 #[.slice a L.length cap, .agg #[.int .i64 pl, .int .i64 pc], .int .u8 o, .int .i64 n] w fun e w' => e = .returned (encV (enclP L pl pc o n)) ∧ Below w.heap.size w w' := by
  by_cases h : plcB L pl pc = true ∧ 1 ≤ n ∧ (kindP o).2.2.1 = true
  · obtain ⟨hp, hn1, hk⟩ := h
    obtain ⟨s, hks⟩ := kind_opens hk
    obtain ⟨p1, p2, p3, p4⟩ := plcB_spec hp
    obtain ⟨l, rfl⟩ := Int.eq_ofNat_of_zero_le p1
    obtain ⟨c, rfl⟩ := Int.eq_ofNat_of_zero_le p3
    have hl : l < L.length := by omega
    rw [Int.toNat_natCast] at p4
    have := rencl_yes a cap L l c o n w hL htot hl (by omega) hn1 hn2 s (Lib.hid hks)
    rw [enclP, if_pos ⟨hp, hn1, hk⟩, hks, ln]
    simp only [Int.toNat_natCast]
    have e : (if (c : Int) < ((L.getD l .empty).size : Int) then idx L l c + 1 else idx L l c) = encS L l c := by
      unfold encS
      by_cases h1 : c < (L.getD l .empty).size
      · rw [if_pos h1, if_pos (by omega)]
      · rw [if_neg h1, if_neg (by omega)]
    rw [e]
    exact this
  · exact rencl_no a cap L pl pc o n w hL h
end Go.Proofs.Ytlbbgocggifjaaa
