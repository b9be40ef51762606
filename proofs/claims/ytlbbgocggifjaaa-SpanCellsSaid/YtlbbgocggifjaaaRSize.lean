/- The contract of the reference's Size. Conditions: none beyond what it says. -/
import Derived.Test.YtlbbgocggifjaaaBase0
import Derived.Test.YtlbbgocggifjaaaStr6
namespace Go.Proofs.Ytlbbgocggifjaaa
open Go.RowKit

set_option maxHeartbeats 400000 in
theorem rsize_any (a : Option Addr) (c : Nat) (L : List ByteArray) (w : World) (hL : LinesAt w a L) (h4 : L.length ≤ 100000) (h12 : total L ≤ 1000000) :
    Calls Try.prog 24 #[.slice a L.length c] w fun e w' => e = .returned (.int .i64 (total L + L.length)) ∧ w = w' := by
  have HL := Lib.hid hL
  clear hL
  go_enter Try.func24, Try.ntmps24
  go_wp2
  go_loop [3, 4] (fun n i => ∃ k : Nat, k ≤ L.length ∧ i = .int .i64 k ∧ n = .int .i64 (total (L.take k) + k) ∧ total (L.take k) ≤ 1000000) (fun _ i => L.length - (intOf i).toNat)
  case atStart => exact ⟨0, Nat.zero_le _, rfl, by simp [total], by simp [total]⟩
  case round =>
    obtain ⟨k, hk, rfl, rfl, ht⟩ := hrel
    by_cases hlt : k < L.length
    · obtain ⟨b, off, rfl, hb, g, gs⟩ := HL.out.line hlt
      obtain ⟨s, hs⟩ : ∃ s, L.getD k .empty = s := ⟨_, rfl⟩
      have hts := total_snoc L k hlt
      have htl := total_take_le L (k + 1)
      rw [hs] at g gs hts
      have HT := Lib.hid hts
      have hb2 : total (L.take k) + s.size ≤ 1000000 := by omega
      clear hs hts htl
      go_wp2
      go_round
      case rel => exact ⟨k + 1, by omega, by go_num, by rw [HT.out]; simp; omega, by rw [HT.out]; exact hb2⟩
      case measure => simp [intOf]; omega
    · go_wp2
      go_ret
      exact ⟨ret_int (by rw [List.take_of_length_le (by omega)]; omega), rfl⟩
end Go.Proofs.Ytlbbgocggifjaaa
