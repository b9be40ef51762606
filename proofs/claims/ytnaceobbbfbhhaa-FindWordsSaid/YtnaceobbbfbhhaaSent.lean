/- The contracts of what is said of one line: stops, beginnings, blanks. Conditions: none beyond what each says. -/
import Derived.Test.YtnaceobbbfbhhaaSentP
import Derived.Test.YtnaceobbbfbhhaaRuns
import Derived.Test.YtnaceobbbfbhhaaPara
import Derived.Laws.OwnMore
namespace Go.Proofs.Ytnaceobbbfbhhaa
open Go.RowKit Go.Shelf

theorem of_at (s : ByteArray) (i : Nat) (h : i < s.size) {x : Int} (hx : clsT s i = x) (w : World) : Calls Try.prog 92 #[.int .u8 (s[i].toNat : Int), .bool true] w fun e w' => e = .returned (.int .i64 x) ∧ w = w' := by
  have := of_any (s[i].toNat : Int) true w
  rw [← byt_at' s i h, show ofC (byt s i) true = x from hx] at this
  rwa [byt_at' s i h] at this
theorem rof_at (s : ByteArray) (i : Nat) (h : i < s.size) {x : Int} (hx : clsT s i = x) (w : World) : Calls Try.prog 48 #[.int .u8 (s[i].toNat : Int), .bool true] w fun e w' => e = .returned (.int .i64 x) ∧ w = w' := by
  have := rof_any (s[i].toNat : Int) true w
  rw [← byt_at' s i h, show ofC (byt s i) true = x from hx] at this
  rwa [byt_at' s i h] at this
/-- What a byte is: a stop's sign or not. -/
theorem stop_ways (s : ByteArray) (i : Nat) : (stopB s i = (decide (i + 1 = s.size) || clsT s (i + 1) == 0) ∧ (byt s i = 46 ∨ byt s i = 33 ∨ byt s i = 63)) ∨ (stopB s i = false ∧ byt s i ≠ 46 ∧ byt s i ≠ 33 ∧ byt s i ≠ 63) := by
  by_cases h : byt s i = 46 ∨ byt s i = 33 ∨ byt s i = 63
  · exact .inl ⟨by rw [stopB, decide_eq_true h, Bool.true_and], h⟩
  · refine .inr ⟨by rw [stopB, decide_eq_false h, Bool.false_and], ?_⟩
    omega
set_option maxHeartbeats 2000000 in
theorem pstop_any (s : ByteArray) (i : Nat) (w : World) (hs : s.size ≤ 140737488351232) (hi : i < s.size) : Calls Try.prog 119 #[.string s, .int .i64 i] w fun e w' => e = .returned (.bool (stopB s i)) ∧ w = w' := by
  have hb := byt_at' s i hi
  have hiI : (i : Int) < (s.size : Int) := by omega
  have hi0 : (0 : Int) ≤ (i : Int) := by omega
  obtain ⟨c, hc⟩ : ∃ c : Int, (s[i].toNat : Int) = c := ⟨_, rfl⟩
  rw [hc] at hb
  rcases stop_ways s i with ⟨hst, hw⟩ | ⟨hst, h1, h2, h3⟩
  · by_cases h1 : i + 1 = s.size
    · have HY : Hid (stopB s i = true) := Lib.hid (by rw [hst, decide_eq_true h1]; rfl)
      have e1 : (s.size : Int) - 1 = (i : Int) := by omega
      rw [hb] at hw
      clear hst hb h1
      rcases hw with rfl | rfl | rfl
      all_goals (
        go_enter Try.func119, Try.ntmps119
        go_wp2
        go_ret
        exact ⟨by rw [HY.out] <;> rfl, rfl⟩)
    · have h1s : i + 1 < s.size := by omega
      obtain ⟨x, hx⟩ : ∃ x, clsT s (i + 1) = x := ⟨_, rfl⟩
      have HY : Hid (stopB s i = (x == 0)) := Lib.hid (by rw [hst, decide_eq_false h1, Bool.false_or, hx])
      have HO := Lib.hid (fun w0 => of_at s (i + 1) h1s hx w0)
      have e1 : ((i : Int) == (s.size : Int) - 1) = false := beq_eq_false_iff_ne.2 (by omega)
      have e2 : (i : Int) + 1 < (s.size : Int) := by omega
      rw [hb] at hw
      clear hst hb h1 hx
      rcases hw with rfl | rfl | rfl
      all_goals (
        go_enter Try.func119, Try.ntmps119
        go_wp2_with (first | (go_at_call 92; refine (HO.out _).mono ?_; rintro e w1 ⟨rfl, rfl⟩) | (go_at_call 48; refine (HO.out _).mono ?_; rintro e w1 ⟨rfl, rfl⟩))
        go_ret
        exact ⟨by rw [HY.out] <;> rfl, rfl⟩)
  · have HY := Lib.hid hst
    rw [hb] at h1 h2 h3
    have t1 : (c == 46) = false := beq_eq_false_iff_ne.2 h1
    have t2 : (c == 33) = false := beq_eq_false_iff_ne.2 h2
    have t3 : (c == 63) = false := beq_eq_false_iff_ne.2 h3
    clear hst hb h1 h2 h3
    go_enter Try.func119, Try.ntmps119
    go_wp2
    go_ret
    exact ⟨by rw [HY.out] <;> rfl, rfl⟩
set_option maxHeartbeats 2000000 in
theorem rstop_any (s : ByteArray) (i : Nat) (w : World) (hs : s.size ≤ 140737488351232) (hi : i < s.size) : Calls Try.prog 101 #[.string s, .int .i64 i] w fun e w' => e = .returned (.bool (stopB s i)) ∧ w = w' := by
  have hb := byt_at' s i hi
  have hiI : (i : Int) < (s.size : Int) := by omega
  have hi0 : (0 : Int) ≤ (i : Int) := by omega
  obtain ⟨c, hc⟩ : ∃ c : Int, (s[i].toNat : Int) = c := ⟨_, rfl⟩
  rw [hc] at hb
  rcases stop_ways s i with ⟨hst, hw⟩ | ⟨hst, h1, h2, h3⟩
  · by_cases h1 : i + 1 = s.size
    · have HY : Hid (stopB s i = true) := Lib.hid (by rw [hst, decide_eq_true h1]; rfl)
      have e1 : (s.size : Int) - 1 = (i : Int) := by omega
      rw [hb] at hw
      clear hst hb h1
      rcases hw with rfl | rfl | rfl
      all_goals (
        go_enter Try.func101, Try.ntmps101
        go_wp2
        go_ret
        exact ⟨by rw [HY.out] <;> rfl, rfl⟩)
    · have h1s : i + 1 < s.size := by omega
      obtain ⟨x, hx⟩ : ∃ x, clsT s (i + 1) = x := ⟨_, rfl⟩
      have HY : Hid (stopB s i = (x == 0)) := Lib.hid (by rw [hst, decide_eq_false h1, Bool.false_or, hx])
      have HO := Lib.hid (fun w0 => rof_at s (i + 1) h1s hx w0)
      have e1 : ((i : Int) == (s.size : Int) - 1) = false := beq_eq_false_iff_ne.2 (by omega)
      have e2 : (i : Int) + 1 < (s.size : Int) := by omega
      rw [hb] at hw
      clear hst hb h1 hx
      rcases hw with rfl | rfl | rfl
      all_goals (
        go_enter Try.func101, Try.ntmps101
        go_wp2_with (first | (go_at_call 92; refine (HO.out _).mono ?_; rintro e w1 ⟨rfl, rfl⟩) | (go_at_call 48; refine (HO.out _).mono ?_; rintro e w1 ⟨rfl, rfl⟩))
        go_ret
        exact ⟨by rw [HY.out] <;> rfl, rfl⟩)
  · have HY := Lib.hid hst
    rw [hb] at h1 h2 h3
    have t1 : (c == 46) = false := beq_eq_false_iff_ne.2 h1
    have t2 : (c == 33) = false := beq_eq_false_iff_ne.2 h2
    have t3 : (c == 63) = false := beq_eq_false_iff_ne.2 h3
    clear hst hb h1 h2 h3
    go_enter Try.func101, Try.ntmps101
    go_wp2
    go_ret
    exact ⟨by rw [HY.out] <;> rfl, rfl⟩
set_option maxHeartbeats 2000000 in
theorem psolid_any (s : ByteArray) (w : World) (hs : s.size ≤ 140737488351232) : Calls Try.prog 100 #[.string s, .int .i64 0] w fun e w' => (∃ i : Int, e = .returned (.tuple #[.int .i64 i, .bool (solF s 0)])) ∧ w = w' := by
  obtain ⟨A, hA⟩ : ∃ A, solF s 0 = A := ⟨_, rfl⟩
  rw [hA]
  have HA := Lib.hid hA
  clear hA
  go_enter Try.func100, Try.ntmps100
  go_wp2
  go_loop [6] (fun i => ∃ k : Nat, k ≤ s.size ∧ i = .int .i64 k ∧ Hid (solF s k = A)) (fun i => s.size - (intOf i).toNat)
  case atStart => exact ⟨0, Nat.zero_le _, rfl, HA⟩
  case round =>
    obtain ⟨k, hk, rfl, HK⟩ := hrel
    by_cases hlt : k < s.size
    · have hltI : (k : Int) < (s.size : Int) := by omega
      have hk0 : (0 : Int) ≤ (k : Int) := by omega
      by_cases hc : clsT s k = 0
      · have HO := Lib.hid (fun w0 => of_at s k hlt hc w0)
        have HK2 : Hid (solF s (k + 1) = A) := Lib.hid (by rw [← solF_blank hlt hc]; exact HK.out)
        clear hc HK
        go_wp2_with (go_at_call 92; refine (HO.out _).mono ?_; rintro e w1 ⟨rfl, rfl⟩)
        go_round
        case rel => exact ⟨k + 1, by omega, by go_num, HK2⟩
        case measure => simp [intOf]; omega
      · obtain ⟨x, hx⟩ : ∃ x, clsT s k = x := ⟨_, rfl⟩
        have HO := Lib.hid (fun w0 => of_at s k hlt hx w0)
        have HK2 : Hid (A = true) := Lib.hid (HK.out.symm.trans (solF_yes hlt hc))
        have hx0 : (x != 0) = true := by rw [bne_iff_ne, ← hx]; exact hc
        clear hc HK hx
        go_wp2_with (go_at_call 92; refine (HO.out _).mono ?_; rintro e w1 ⟨rfl, rfl⟩)
        go_ret2
        exact ⟨⟨_, by rw [HK2.out] <;> rfl⟩, rfl⟩
    · have HK2 : Hid (A = false) := Lib.hid (HK.out.symm.trans (solF_end (by omega)))
      go_wp2
      go_ret2
      exact ⟨⟨_, by rw [HK2.out] <;> rfl⟩, rfl⟩
set_option maxHeartbeats 2000000 in
theorem rblank_any (s : ByteArray) (w : World) (hs : s.size ≤ 140737488351232) : Calls Try.prog 102 #[.string s] w fun e w' => e = .returned (.bool (!solF s 0)) ∧ w = w' := by
  obtain ⟨A, hA⟩ : ∃ A, solF s 0 = A := ⟨_, rfl⟩
  rw [hA]
  have HA := Lib.hid hA
  clear hA
  go_enter Try.func102, Try.ntmps102
  go_wp2
  go_loop [3] (fun i => ∃ k : Nat, k ≤ s.size ∧ i = .int .i64 k ∧ Hid (solF s k = A)) (fun i => s.size - (intOf i).toNat)
  case atStart => exact ⟨0, Nat.zero_le _, rfl, HA⟩
  case round =>
    obtain ⟨k, hk, rfl, HK⟩ := hrel
    by_cases hlt : k < s.size
    · have hltI : (k : Int) < (s.size : Int) := by omega
      have hk0 : (0 : Int) ≤ (k : Int) := by omega
      by_cases hc : clsT s k = 0
      · have HO := Lib.hid (fun w0 => rof_at s k hlt hc w0)
        have HK2 : Hid (solF s (k + 1) = A) := Lib.hid (by rw [← solF_blank hlt hc]; exact HK.out)
        clear hc HK
        go_wp2_with (go_at_call 48; refine (HO.out _).mono ?_; rintro e w1 ⟨rfl, rfl⟩)
        go_round
        case rel => exact ⟨k + 1, by omega, by go_num, HK2⟩
        case measure => simp [intOf]; omega
      · obtain ⟨x, hx⟩ : ∃ x, clsT s k = x := ⟨_, rfl⟩
        have HO := Lib.hid (fun w0 => rof_at s k hlt hx w0)
        have HK2 : Hid (A = true) := Lib.hid (HK.out.symm.trans (solF_yes hlt hc))
        have hx0 : (x != 0) = true := by rw [bne_iff_ne, ← hx]; exact hc
        clear hc HK hx
        go_wp2_with (go_at_call 48; refine (HO.out _).mono ?_; rintro e w1 ⟨rfl, rfl⟩)
        go_ret
        exact ⟨by rw [HK2.out] <;> rfl, rfl⟩
    · have HK2 : Hid (A = false) := Lib.hid (HK.out.symm.trans (solF_end (by omega)))
      go_wp2
      go_ret
      exact ⟨by rw [HK2.out] <;> rfl, rfl⟩
end Go.Proofs.Ytnaceobbbfbhhaa
