/- The contracts of Column, nth, Seek of package chars. Conditions: none beyond what each says. -/
import Derived.Test.YtmafieomlhpdeaaChars2
import Derived.IntWalk
namespace Go.Proofs.Ytmafieomlhpdeaa
open Go.RowKit

set_option maxHeartbeats 1000000 in
theorem nth_fwd (s : ByteArray) (col : Nat) (c n : Int) (w : World) (hs : s.size ≤ 140737488351232) (hc : col ≤ s.size) (h1 : 1 ≤ n) (hn2 : n ≤ 9223372036854775807) :
    Calls Try.prog 62 #[.string s, .int .i64 col, .bool false, .int .u8 c, .int .i64 n] w fun e w' => e = .returned (.int .i64 (fwdN s c n (col + 1))) ∧ w = w' := by
  obtain ⟨R, hR⟩ : ∃ R, fwdN s c n (col + 1) = R := ⟨_, rfl⟩
  rw [hR]
  have HR := Lib.hid hR
  clear hR
  go_enter Try.func62, Try.ntmps62
  go_wp2
  go_loop [4, 15] (fun nn i => ∃ (k : Nat) (m : Int), k ≤ s.size ∧ i = .int .i64 k ∧ nn = .int .i64 m ∧ 1 ≤ m ∧ m ≤ n ∧ Hid (fwdN s c m (col + 1 + k) = R)) (fun _ i => s.size - (intOf i).toNat)
  case atStart => exact ⟨0, n, Nat.zero_le _, rfl, rfl, h1, Int.le_refl _, HR⟩
  case round =>
    obtain ⟨k, m, hk, rfl, rfl, hm1, hm2, HM⟩ := hrel
    by_cases hlt : k < s.size
    · obtain ⟨A, hA⟩ : ∃ A : Nat, col + 1 + k = A := ⟨_, rfl⟩
      have hAI : (col : Int) + 1 + (k : Int) = (A : Int) := by omega
      rw [hA] at HM
      by_cases hlA : A < s.size
      · by_cases hb : byt s A = c
        · have hbb : ((s[A].toNat : Int) != c) = false := by rw [bne_eq_false_iff_eq, ← hb]; exact (byt_at s A hlA).symm
          by_cases hm : m = 1
          · have HF := Lib.hid (fwdN_hit hlA hb hm)
            subst hm
            clear hA hb
            go_wp2
            go_ret
            exact ⟨ret_int (by rw [← HM.out, HF.out]), rfl⟩
          · have HF := Lib.hid (fwdN_more hlA hb hm)
            have hm3 : 2 ≤ m := by omega
            have hm0 : (m - 1 == 0) = false := beq_eq_false_iff_ne.2 (by omega)
            have hA2 := Lib.hid hA
            clear hA hb hm
            go_wp2
            go_round
            case rel => exact ⟨k + 1, m - 1, by omega, by go_num, rfl, by omega, by omega, Lib.hid (by rw [show col + 1 + (k + 1) = A + 1 from by have := hA2.out; omega, ← HF.out]; exact HM.out)⟩
            case measure => simp [intOf]; omega
        · have hbb : ((s[A].toNat : Int) != c) = true := by rw [bne_iff_ne]; intro e; exact hb (by rw [byt_at s A hlA]; exact e)
          have HF := Lib.hid (fwdN_miss (n := m) hlA hb)
          have hA2 := Lib.hid hA
          clear hA hb
          go_wp2
          go_round
          case rel => exact ⟨k + 1, m, by omega, by go_num, rfl, by omega, by omega, Lib.hid (by rw [show col + 1 + (k + 1) = A + 1 from by have := hA2.out; omega, ← HF.out]; exact HM.out)⟩
          case measure => simp [intOf]; omega
      · have HF := Lib.hid (fwdN_end (s := s) (c := c) (n := m) (i := A) (by omega))
        have hge : (s.size : Int) ≤ (A : Int) := by omega
        clear hA
        go_wp2
        go_ret
        exact ⟨ret_int (by rw [← HM.out, HF.out]), rfl⟩
    · have HF := Lib.hid (fwdN_end (s := s) (c := c) (n := m) (i := col + 1 + k) (by omega))
      go_wp2
      go_ret
      exact ⟨ret_int (by rw [← HM.out, HF.out]), rfl⟩

set_option maxHeartbeats 1000000 in
theorem nth_bwd (s : ByteArray) (col : Nat) (c n : Int) (w : World) (hs : s.size ≤ 140737488351232) (hc : col ≤ s.size) (h1 : 1 ≤ n) (hn2 : n ≤ 9223372036854775807) :
    Calls Try.prog 62 #[.string s, .int .i64 col, .bool true, .int .u8 c, .int .i64 n] w fun e w' => e = .returned (.int .i64 (bwdN s c n col)) ∧ w = w' := by
  obtain ⟨R, hR⟩ : ∃ R, bwdN s c n col = R := ⟨_, rfl⟩
  rw [hR]
  have HR := Lib.hid hR
  clear hR
  go_enter Try.func62, Try.ntmps62
  go_wp2
  go_loop [4, 15] (fun nn i => ∃ (k : Nat) (m : Int), k ≤ col ∧ i = .int .i64 k ∧ nn = .int .i64 m ∧ 1 ≤ m ∧ m ≤ n ∧ Hid (bwdN s c m (col - k) = R)) (fun _ i => col - (intOf i).toNat)
  case atStart => exact ⟨0, n, Nat.zero_le _, rfl, rfl, h1, Int.le_refl _, HR⟩
  case round =>
    obtain ⟨k, m, hk, rfl, rfl, hm1, hm2, HM⟩ := hrel
    by_cases hlt : k < col
    · obtain ⟨A, hA⟩ : ∃ A : Nat, col - k = A + 1 := ⟨col - k - 1, by omega⟩
      have hAI : (col : Int) - 1 - (k : Int) = (A : Int) := by omega
      have hlA : A < s.size := by omega
      have hks : k < s.size := by omega
      rw [hA] at HM
      by_cases hb : byt s A = c
      · have hbb : ((s[A].toNat : Int) != c) = false := by rw [bne_eq_false_iff_eq, ← hb]; exact (byt_at s A hlA).symm
        by_cases hm : m = 1
        · have HF := Lib.hid (bwdN_hit (s := s) (c := c) (n := m) (i := A) hb hm)
          subst hm
          clear hA hb
          go_wp2
          go_ret
          exact ⟨ret_int (by rw [← HM.out, HF.out]), rfl⟩
        · have HF := Lib.hid (bwdN_more (s := s) (c := c) (n := m) (i := A) hb hm)
          have hm3 : 2 ≤ m := by omega
          have hm0 : (m - 1 == 0) = false := beq_eq_false_iff_ne.2 (by omega)
          have hA2 := Lib.hid hA
          clear hA hb hm
          go_wp2
          go_round
          case rel => exact ⟨k + 1, m - 1, by omega, by go_num, rfl, by omega, by omega, Lib.hid (by rw [show col - (k + 1) = A from by have := hA2.out; omega, ← HF.out]; exact HM.out)⟩
          case measure => simp [intOf]; omega
      · have hbb : ((s[A].toNat : Int) != c) = true := by rw [bne_iff_ne]; intro e; exact hb (by rw [byt_at s A hlA]; exact e)
        have HF := Lib.hid (bwdN_miss (n := m) hb)
        have hA2 := Lib.hid hA
        clear hA hb
        go_wp2
        go_round
        case rel => exact ⟨k + 1, m, by omega, by go_num, rfl, by omega, by omega, Lib.hid (by rw [show col - (k + 1) = A from by have := hA2.out; omega, ← HF.out]; exact HM.out)⟩
        case measure => simp [intOf]; omega
    · have hk0 : col - k = 0 := by omega
      rw [hk0] at HM
      have HF := Lib.hid (bwdN_end (s := s) (c := c) (n := m))
      have hneg : (col : Int) - 1 - (k : Int) < 0 := by omega
      clear hk0
      by_cases hks : k < s.size
      · go_wp2
        go_ret
        exact ⟨ret_int (by rw [← HM.out, HF.out]), rfl⟩
      · go_wp2
        go_ret
        exact ⟨ret_int (by rw [← HM.out, HF.out]), rfl⟩
end Go.Proofs.Ytmafieomlhpdeaa
