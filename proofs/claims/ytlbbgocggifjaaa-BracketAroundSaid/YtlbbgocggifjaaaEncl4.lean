/- The contract of Enclosing. Conditions: none beyond what it says. -/
import Derived.Test.YtlbbgocggifjaaaEncl2
import Derived.Test.YtlbbgocggifjaaaEncl3
namespace Go.Proofs.Ytlbbgocggifjaaa
open Go.RowKit

theorem kind_opens {o : Int} (h : (kindP o).2.2.1 = true) : ∃ s, kindP o = (o, s, true, true) := by
  unfold kindP at h ⊢
  by_cases h1 : o = 40 ∨ o = 41
  · rw [if_pos h1] at h ⊢
    have e : o = 40 := by simpa using h
    subst e; exact ⟨41, rfl⟩
  · rw [if_neg h1] at h ⊢
    by_cases h2 : o = 91 ∨ o = 93
    · rw [if_pos h2] at h ⊢
      have e : o = 91 := by simpa using h
      subst e; exact ⟨93, rfl⟩
    · rw [if_neg h2] at h ⊢
      by_cases h3 : o = 123 ∨ o = 125
      · rw [if_pos h3] at h ⊢
        have e : o = 123 := by simpa using h
        subst e; exact ⟨125, rfl⟩
      · rw [if_neg h3] at h; simp at h
theorem encl_any (a : Option Addr) (cap : Nat) (L : List ByteArray) (pl pc o n : Int) (w : World) (hL : LinesAt w a L) (htot : total L ≤ 1000000) (hn2 : n ≤ 9223372036854775807) :
    Calls Try.prog 50 #[.slice a L.length cap, .agg #[.int .i64 pl, .int .i64 pc], .int .u8 o, .int .i64 n] w fun e w' => e = .returned (encV (enclP L pl pc o n)) ∧ Below w.heap.size w w' := by
  by_cases h : plcB L pl pc = true ∧ 1 ≤ n ∧ (kindP o).2.2.1 = true
  · obtain ⟨hp, hn1, hk⟩ := h
    obtain ⟨s, hks⟩ := kind_opens hk
    obtain ⟨p1, p2, p3, p4⟩ := plcB_spec hp
    obtain ⟨l, rfl⟩ := Int.eq_ofNat_of_zero_le p1
    obtain ⟨c, rfl⟩ := Int.eq_ofNat_of_zero_le p3
    have hl : l < L.length := by omega
    rw [Int.toNat_natCast] at p4
    by_cases hc : c < (L.getD l .empty).size
    · have := encl_byte a cap L l c o n w hL htot hl hc hn1 hn2 s (Lib.hid hks)
      rw [enclP, if_pos ⟨hp, hn1, hk⟩, hks, ln]
      simp only [Int.toNat_natCast]
      rw [if_pos (by omega)]
      exact this
    · have := encl_edge a cap L l c o n w hL htot hl (by omega) hn1 hn2 s (Lib.hid hks)
      rw [enclP, if_pos ⟨hp, hn1, hk⟩, hks, ln]
      simp only [Int.toNat_natCast]
      rw [if_neg (by omega)]
      exact this
  · exact encl_no a cap L pl pc o n w hL h
end Go.Proofs.Ytlbbgocggifjaaa
