/- A place out of any number (foolscaphelp.Place). Conditions: none beyond what each says. -/
import Derived.Test.YtnaceobbbfbhhaaBase0
namespace Go.Proofs.Ytnaceobbbfbhhaa
open Go.RowKit

theorem tmod_pl' {k n : Int} (hn : 0 < n) : (if k.tmod n < 0 then k.tmod n + n else k.tmod n) = k % n := by
  have h1 := Int.mul_tdiv_add_tmod k n
  have h2 := Int.tmod_lt_of_pos k hn
  have h3 : -n < k.tmod n := by
    have := Int.tmod_lt_of_pos (-k) hn
    rw [Int.neg_tmod] at this; omega
  obtain ⟨t, ht⟩ : ∃ t, k.tmod n = t := ⟨_, rfl⟩
  rw [ht] at h1 h2 h3 ⊢
  have e : k % n = t % n := by rw [← h1, Int.mul_add_emod_self_left]
  rw [e]
  split
  · rw [← Int.add_emod_right, Int.emod_eq_of_lt (by omega) (by omega)]
  · rw [Int.emod_eq_of_lt (by omega) h2]
theorem hplace_any' (k n : Int) (hn : 0 < n) (hn2 : n ≤ 100000) (w : World) : Calls Try.prog 36 #[.int .i64 k, .int .i64 n] w fun e w' => e = .returned (.int .i64 (k % n)) ∧ w = w' := by
  have hy := tmod_pl' (k := k) hn
  have h2 := Int.tmod_lt_of_pos k hn
  have h3 : -n < k.tmod n := by
    have := Int.tmod_lt_of_pos (-k) hn
    rw [Int.neg_tmod] at this; omega
  have hn0 : ¬ n = 0 := by omega
  obtain ⟨t, ht⟩ : ∃ t, k.tmod n = t := ⟨_, rfl⟩
  rw [ht] at hy h2 h3
  have HY := Lib.hid hy
  clear hy
  by_cases h0 : t < 0
  · go_enter Try.func36, Try.ntmps36
    go_wp2
    go_ret
    exact ⟨ret_int (by have := HY.out; rw [if_pos h0] at this; exact this), rfl⟩
  · have hy2 := Lib.hid (HY.out.symm.trans (if_neg h0))
    go_enter Try.func36, Try.ntmps36
    go_wp2
    go_ret
    exact ⟨ret_int hy2.out.symm, rfl⟩
end Go.Proofs.Ytnaceobbbfbhhaa
