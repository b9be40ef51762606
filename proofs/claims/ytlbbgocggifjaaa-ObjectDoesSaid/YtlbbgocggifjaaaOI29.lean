/- Several texts in one: Sent, Sent2. Conditions: none beyond what each says. -/
import Derived.Test.YtlbbgocggifjaaaOI7
import Derived.Test.YtlbbgocggifjaaaOI23
import Derived.Test.YtlbbgocggifjaaaOI15
import Derived.Laws.OwnMore
namespace Go.Proofs.Ytlbbgocggifjaaa
open Go.RowKit Go.Shelf

theorem of_at (s : ByteArray) (i : Nat) (h : i < s.size) {x : Int} (hx : clsT s i = x) (w : World) : Calls Try.prog 103 #[.int .u8 (s[i].toNat : Int), .bool true] w fun e w' => e = .returned (.int .i64 x) ∧ w = w' := by
  have := of_any (s[i].toNat : Int) true w
  rw [← byt_at' s i h, show ofC (byt s i) true = x from hx] at this
  rwa [byt_at' s i h] at this
theorem rof_at (s : ByteArray) (i : Nat) (h : i < s.size) {x : Int} (hx : clsT s i = x) (w : World) : Calls Try.prog 101 #[.int .u8 (s[i].toNat : Int), .bool true] w fun e w' => e = .returned (.int .i64 x) ∧ w = w' := by
  have := rof_any (s[i].toNat : Int) true w
  rw [← byt_at' s i h, show ofC (byt s i) true = x from hx] at this
  rwa [byt_at' s i h] at this
/-- What a byte is: a stop's sign or not. -/
theorem stop_ways (s : ByteArray) (i : Nat) : (stopB s i = (decide (i + 1 = s.size) || clsT s (i + 1) == 0) ∧ (byt s i = 46 ∨ byt s i = 33 ∨ byt s i = 63)) ∨ (stopB s i = false ∧ byt s i ≠ 46 ∧ byt s i ≠ 33 ∧ byt s i ≠ 63) := by
  by_cases h : byt s i = 46 ∨ byt s i = 33 ∨ byt s i = 63
  · exact .inl ⟨by rw [stopB, decide_eq_true h, Bool.true_and], h⟩
  · refine .inr ⟨by rw [stopB, decide_eq_false h, Bool.false_and], ?_⟩
    omega
set_option maxHeartbeats 2000000 in
theorem pstop_any (s : ByteArray) (i : Nat) (w : World) (hs : s.size ≤ 140737488351232) (hi : i < s.size) : Calls Try.prog 148 #[.string s, .int .i64 i] w fun e w' => e = .returned (.bool (stopB s i)) ∧ w = w' := by
  have hb := byt_at' s i hi
  have hiI : (i : Int) < (s.size : Int) := by omega
  have hi0 : (0 : Int) ≤ (i : Int) := by omega
  obtain ⟨c, hc⟩ : ∃ c : Int, (s[i].toNat : Int) = c := ⟨_, rfl⟩
  rw [hc] at hb
  rcases stop_ways s i with ⟨hst, hw⟩ | ⟨hst, h1, h2, h3⟩
  · by_cases h1 : i + 1 = s.size
    · have HY : Hid (stopB s i = true) := Lib.hid (by rw [hst, decide_eq_true h1]; rfl)
      have e1 : (s.size : Int) - 1 = (i : Int) := by omega
      rw [hb] at hw
      clear hst hb h1
      rcases hw with rfl | rfl | rfl
      all_goals (
        go_enter Try.func148, Try.ntmps148
        go_wp2
        go_ret
        exact ⟨by rw [HY.out] <;> rfl, rfl⟩)
    · have h1s : i + 1 < s.size := by omega
      obtain ⟨x, hx⟩ : ∃ x, clsT s (i + 1) = x := ⟨_, rfl⟩
      have HY : Hid (stopB s i = (x == 0)) := Lib.hid (by rw [hst, decide_eq_false h1, Bool.false_or, hx])
      have HO := Lib.hid (fun w0 => of_at s (i + 1) h1s hx w0)
      have e1 : ((i : Int) == (s.size : Int) - 1) = false := beq_eq_false_iff_ne.2 (by omega)
      have e2 : (i : Int) + 1 < (s.size : Int) := by omega
      rw [hb] at hw
      clear hst hb h1 hx
      rcases hw with rfl | rfl | rfl
      all_goals (
        go_enter Try.func148, Try.ntmps148
        go_wp2_with (first | (go_at_call 103; refine (HO.out _).mono ?_; rintro e w1 ⟨rfl, rfl⟩) | (go_at_call 101; refine (HO.out _).mono ?_; rintro e w1 ⟨rfl, rfl⟩))
        go_ret
        exact ⟨by rw [HY.out] <;> rfl, rfl⟩)
  · have HY := Lib.hid hst
    rw [hb] at h1 h2 h3
    have t1 : (c == 46) = false := beq_eq_false_iff_ne.2 h1
    have t2 : (c == 33) = false := beq_eq_false_iff_ne.2 h2
    have t3 : (c == 63) = false := beq_eq_false_iff_ne.2 h3
    clear hst hb h1 h2 h3
    go_enter Try.func148, Try.ntmps148
    go_wp2
    go_ret
    exact ⟨by rw [HY.out] <;> rfl, rfl⟩
set_option maxHeartbeats 2000000 in
theorem rstop_any (s : ByteArray) (i : Nat) (w : World) (hs : s.size ≤ 140737488351232) (hi : i < s.size) : Calls Try.prog 131 #[.string s, .int .i64 i] w fun e w' => e = .returned (.bool (stopB s i)) ∧ w = w' := by
  have hb := byt_at' s i hi
  have hiI : (i : Int) < (s.size : Int) := by omega
  have hi0 : (0 : Int) ≤ (i : Int) := by omega
  obtain ⟨c, hc⟩ : ∃ c : Int, (s[i].toNat : Int) = c := ⟨_, rfl⟩
  rw [hc] at hb
  rcases stop_ways s i with ⟨hst, hw⟩ | ⟨hst, h1, h2, h3⟩
  · by_cases h1 : i + 1 = s.size
    · have HY : Hid (stopB s i = true) := Lib.hid (by rw [hst, decide_eq_true h1]; rfl)
      have e1 : (s.size : Int) - 1 = (i : Int) := by omega
      rw [hb] at hw
      clear hst hb h1
      rcases hw with rfl | rfl | rfl
      all_goals (
        go_enter Try.func131, Try.ntmps131
        go_wp2
        go_ret
        exact ⟨by rw [HY.out] <;> rfl, rfl⟩)
    · have h1s : i + 1 < s.size := by omega
      obtain ⟨x, hx⟩ : ∃ x, clsT s (i + 1) = x := ⟨_, rfl⟩
      have HY : Hid (stopB s i = (x == 0)) := Lib.hid (by rw [hst, decide_eq_false h1, Bool.false_or, hx])
      have HO := Lib.hid (fun w0 => rof_at s (i + 1) h1s hx w0)
      have e1 : ((i : Int) == (s.size : Int) - 1) = false := beq_eq_false_iff_ne.2 (by omega)
      have e2 : (i : Int) + 1 < (s.size : Int) := by omega
      rw [hb] at hw
      clear hst hb h1 hx
      rcases hw with rfl | rfl | rfl
      all_goals (
        go_enter Try.func131, Try.ntmps131
        go_wp2_with (first | (go_at_call 103; refine (HO.out _).mono ?_; rintro e w1 ⟨rfl, rfl⟩) | (go_at_call 101; refine (HO.out _).mono ?_; rintro e w1 ⟨rfl, rfl⟩))
        go_ret
        exact ⟨by rw [HY.out] <;> rfl, rfl⟩)
  · have HY := Lib.hid hst
    rw [hb] at h1 h2 h3
    have t1 : (c == 46) = false := beq_eq_false_iff_ne.2 h1
    have t2 : (c == 33) = false := beq_eq_false_iff_ne.2 h2
    have t3 : (c == 63) = false := beq_eq_false_iff_ne.2 h3
    clear hst hb h1 h2 h3
    go_enter Try.func131, Try.ntmps131
    go_wp2
    go_ret
    exact ⟨by rw [HY.out] <;> rfl, rfl⟩
set_option maxHeartbeats 2000000 in
theorem psolid_any (s : ByteArray) (w : World) (hs : s.size ≤ 140737488351232) : Calls Try.prog 130 #[.string s, .int .i64 0] w fun e w' => (∃ i : Int, e = .returned (.tuple #[.int .i64 i, .bool (solF s 0)])) ∧ w = w' := by
  obtain ⟨A, hA⟩ : ∃ A, solF s 0 = A := ⟨_, rfl⟩
  rw [hA]
  have HA := Lib.hid hA
  clear hA
  go_enter Try.func130, Try.ntmps130
  go_wp2
  go_loop [6] (fun i => ∃ k : Nat, k ≤ s.size ∧ i = .int .i64 k ∧ Hid (solF s k = A)) (fun i => s.size - (intOf i).toNat)
  case atStart => exact ⟨0, Nat.zero_le _, rfl, HA⟩
  case round =>
    obtain ⟨k, hk, rfl, HK⟩ := hrel
    by_cases hlt : k < s.size
    · have hltI : (k : Int) < (s.size : Int) := by omega
      have hk0 : (0 : Int) ≤ (k : Int) := by omega
      by_cases hc : clsT s k = 0
      · have HO := Lib.hid (fun w0 => of_at s k hlt hc w0)
        have HK2 : Hid (solF s (k + 1) = A) := Lib.hid (by rw [← solF_blank hlt hc]; exact HK.out)
        clear hc HK
        go_wp2_with (go_at_call 103; refine (HO.out _).mono ?_; rintro e w1 ⟨rfl, rfl⟩)
        go_round
        case rel => exact ⟨k + 1, by omega, by go_num, HK2⟩
        case measure => simp [intOf]; omega
      · obtain ⟨x, hx⟩ : ∃ x, clsT s k = x := ⟨_, rfl⟩
        have HO := Lib.hid (fun w0 => of_at s k hlt hx w0)
        have HK2 : Hid (A = true) := Lib.hid (HK.out.symm.trans (solF_yes hlt hc))
        have hx0 : (x != 0) = true := by rw [bne_iff_ne, ← hx]; exact hc
        clear hc HK hx
        go_wp2_with (go_at_call 103; refine (HO.out _).mono ?_; rintro e w1 ⟨rfl, rfl⟩)
        go_ret2
        exact ⟨⟨_, by rw [HK2.out] <;> rfl⟩, rfl⟩
    · have HK2 : Hid (A = false) := Lib.hid (HK.out.symm.trans (solF_end (by omega)))
      go_wp2
      go_ret2
      exact ⟨⟨_, by rw [HK2.out] <;> rfl⟩, rfl⟩
set_option maxHeartbeats 2000000 in
theorem rblank_any (s : ByteArray) (w : World) (hs : s.size ≤ 140737488351232) : Calls Try.prog 132 #[.string s] w fun e w' => e = .returned (.bool (!solF s 0)) ∧ w = w' := by
  obtain ⟨A, hA⟩ : ∃ A, solF s 0 = A := ⟨_, rfl⟩
  rw [hA]
  have HA := Lib.hid hA
  clear hA
  go_enter Try.func132, Try.ntmps132
  go_wp2
  go_loop [3] (fun i => ∃ k : Nat, k ≤ s.size ∧ i = .int .i64 k ∧ Hid (solF s k = A)) (fun i => s.size - (intOf i).toNat)
  case atStart => exact ⟨0, Nat.zero_le _, rfl, HA⟩
  case round =>
    obtain ⟨k, hk, rfl, HK⟩ := hrel
    by_cases hlt : k < s.size
    · have hltI : (k : Int) < (s.size : Int) := by omega
      have hk0 : (0 : Int) ≤ (k : Int) := by omega
      by_cases hc : clsT s k = 0
      · have HO := Lib.hid (fun w0 => rof_at s k hlt hc w0)
        have HK2 : Hid (solF s (k + 1) = A) := Lib.hid (by rw [← solF_blank hlt hc]; exact HK.out)
        clear hc HK
        go_wp2_with (go_at_call 101; refine (HO.out _).mono ?_; rintro e w1 ⟨rfl, rfl⟩)
        go_round
        case rel => exact ⟨k + 1, by omega, by go_num, HK2⟩
        case measure => simp [intOf]; omega
      · obtain ⟨x, hx⟩ : ∃ x, clsT s k = x := ⟨_, rfl⟩
        have HO := Lib.hid (fun w0 => rof_at s k hlt hx w0)
        have HK2 : Hid (A = true) := Lib.hid (HK.out.symm.trans (solF_yes hlt hc))
        have hx0 : (x != 0) = true := by rw [bne_iff_ne, ← hx]; exact hc
        clear hc HK hx
        go_wp2_with (go_at_call 101; refine (HO.out _).mono ?_; rintro e w1 ⟨rfl, rfl⟩)
        go_ret
        exact ⟨by rw [HK2.out] <;> rfl, rfl⟩
    · have HK2 : Hid (A = false) := Lib.hid (HK.out.symm.trans (solF_end (by omega)))
      go_wp2
      go_ret
      exact ⟨by rw [HK2.out] <;> rfl, rfl⟩
end Go.Proofs.Ytlbbgocggifjaaa
namespace Go.Proofs.Ytlbbgocggifjaaa
open Go.RowKit Go.Shelf

theorem infoInt : (Try.prog.info? 3).map (fun i => (i.zero, i.size, i.bytes)) = some (some (.int .i64 0), 1, 8) := by kernel_rfl
theorem infoPos : (Try.prog.info? 29).map (fun i => (i.zero, i.size, i.bytes)) = some (some (.agg #[.int .i64 0, .int .i64 0]), 2, 16) := by kernel_rfl
/-- Numbers as cells. -/
abbrev cellsN (l : List Nat) : List Value := l.map (fun n : Nat => .int .i64 (n : Int))
set_option maxRecDepth 100000 in
set_option maxHeartbeats 4000000 in
theorem starts_any (s : ByteArray) (op : Bool) (w : World) (hs : s.size ≤ 100000) : Calls Try.prog 129 #[.string s, .bool op] w fun e w' =>
    ∃ v, e = .returned (.tuple #[v, .bool (opF s op 0)]) ∧ w'.ownsRow w.heap.size 3 1 v (colF s op 0).length (cellsN (colF s op 0)) ∧ Below w.heap.size w w' := by
  obtain ⟨i0, hi, hz0, hz1, hz2⟩ := info_parts infoInt
  obtain ⟨R, hR⟩ : ∃ R, colF s op 0 = R := ⟨_, rfl⟩
  obtain ⟨O, hO⟩ : ∃ O, opF s op 0 = O := ⟨_, rfl⟩
  rw [hR, hO]
  have HR := Lib.hid hR
  have HO := Lib.hid hO
  clear hR hO
  go_enter Try.func129, Try.ntmps129
  go_wp2
  go_loopw [1, 6, 10] (fun o v i wr => ∃ (k : Nat) (op' : Bool) (pre : List Nat), k ≤ s.size ∧ i = .int .i64 k ∧ o = .bool op' ∧ pre.length ≤ k ∧ wr.ownsRow w.heap.size 3 1 v pre.length (cellsN pre) ∧ Hid (pre ++ colF s op' k = R) ∧ Hid (opF s op' k = O) ∧ Below w.heap.size w wr)
    (fun _ _ i _ => s.size - (intOf i).toNat)
  case atStart => exact ⟨0, op, [], Nat.zero_le _, rfl, rfl, Nat.le_refl _, World.ownsRow_nil _ _ _ _, Lib.hid (by rw [List.nil_append]; exact HR.out), HO, Below.refl _ _⟩
  case round =>
    obtain ⟨k, op', pre, hk, rfl, rfl, hp, hrow, HK, HP, hB⟩ := hrel
    by_cases hlt : k < s.size
    · have hltI : (k : Int) < (s.size : Int) := by omega
      have hk0 : (0 : Int) ≤ (k : Int) := by omega
      have HS := Lib.hid (fun w0 => pstop_any s k w0 (by omega) hlt)
      by_cases hc : clsT s k = 0
      · have HO2 := Lib.hid (fun w0 => of_at s k hlt hc w0)
        have HK2 : Hid (pre ++ colF s op' (k + 1) = R) := Lib.hid (by rw [← colF_blank hlt hc]; exact HK.out)
        have HP2 : Hid (opF s op' (k + 1) = O) := Lib.hid (by rw [← opF_blank hlt hc]; exact HP.out)
        have HSB := Lib.hid (stop_solid hc)
        clear hc HK HP
        cases op' with
        | true =>
          go_wp2_with (go_at_call 103; refine (HO2.out _).mono ?_; rintro e w1 ⟨rfl, rfl⟩)
          go_roundw
          case rel => exact ⟨k + 1, true, pre, by omega, by go_num, rfl, by omega, hrow, HK2, HP2, hB⟩
          case measure => simp [intOf]; omega
        | false =>
          go_wp2_with (go_at_call 148; refine (HS.out _).mono ?_; rw [HSB.out]; rintro e w1 ⟨rfl, rfl⟩)
          go_roundw
          case rel => exact ⟨k + 1, false, pre, by omega, by go_num, rfl, by omega, hrow, HK2, HP2, hB⟩
          case measure => simp [intOf]; omega
      · obtain ⟨x, hx⟩ : ∃ x, clsT s k = x := ⟨_, rfl⟩
        have HO2 := Lib.hid (fun w0 => of_at s k hlt hx w0)
        have hx0 : (x != 0) = true := by rw [bne_iff_ne, ← hx]; exact hc
        obtain ⟨st, hst⟩ : ∃ st, stopB s k = st := ⟨_, rfl⟩
        have HP2 : Hid (opF s st (k + 1) = O) := Lib.hid (by rw [← hst, ← opF_on hlt hc]; exact HP.out)
        have HST := Lib.hid hst
        cases op' with
        | true =>
          have HK2 : Hid ((pre ++ [k]) ++ colF s st (k + 1) = R) := Lib.hid (by rw [← HK.out, colF_on hlt hc, hst]; simp)
          have HC : Hid (cellsN (pre ++ [k]) = cellsN pre ++ [.int .i64 (k : Int)]) := Lib.hid (by simp [cellsN])
          clear hc HK HP hx hst
          go_wp2_with (first | (go_at_call 103; refine (HO2.out _).mono ?_; rintro e w1 ⟨rfl, rfl⟩) | (go_at_call 148; refine (HS.out _).mono ?_; rw [HST.out]; rintro e w1 ⟨rfl, rfl⟩) | (at_builtin; refine wpList_append_own _ rfl _ _ 56 rfl w.heap.size 3 i0 (.int .i64 0) 1 8 Try.underlying56 hi hz0 hz1 hz2 rfl (by decide) _ _ _ rfl (hrow.alloc _) ⟨wr.heap.size, 0, none⟩ 1 1 [.int .i64 (k : Int)] rfl rfl (cell_one_new _ _ _) (by intro u hu; simp at hu; rcases hu with rfl; rfl) (by unfold maxLen; omega) (by omega) (by have := hB.size; simp; omega) ?_; intro v' w1 hown' hgrow _))
          have hB1 : Below w.heap.size w w1 := (hB.alloc hB.size _).grown hgrow (by have := hB.size; simp; omega) (fun r e => (hrow.lt r e).1)
          go_roundw
          case rel => exact ⟨k + 1, st, pre ++ [k], by omega, by go_num, rfl, by simp; omega, by rw [HC.out]; simpa using hown', HK2, HP2, hB1⟩
          case measure => simp [intOf]; omega
        | false =>
          have HK2 : Hid (pre ++ colF s st (k + 1) = R) := Lib.hid (by rw [← HK.out, colF_off hlt hc, hst])
          clear hc HK HP hx hst
          go_wp2_with (go_at_call 148; refine (HS.out _).mono ?_; rw [HST.out]; rintro e w1 ⟨rfl, rfl⟩)
          go_roundw
          case rel => exact ⟨k + 1, st, pre, by omega, by go_num, rfl, by omega, hrow, HK2, HP2, hB⟩
          case measure => simp [intOf]; omega
    · have e : pre = R := by have := HK.out; rwa [colF_end (by omega), List.append_nil] at this
      have e2 : op' = O := by have := HP.out; rwa [opF_end (by omega)] at this
      subst e e2
      go_wp2
      go_ret2
      exact ⟨_, rfl, hrow, hB⟩

set_option maxRecDepth 100000 in
set_option maxHeartbeats 8000000 in
theorem rsent_any (a : Option Addr) (cap : Nat) (L : List ByteArray) (w : World) (hL : LinesAt w a L) (htot : L.length + total L ≤ 100000) : Calls Try.prog 71 #[.slice a L.length cap] w fun e w' =>
    ∃ v, e = .returned v ∧ w'.ownsRow w.heap.size 29 2 v (sentP L).length (cellsV (sentP L)) ∧ Below w.heap.size w w' := by
  have hn := hL.2.1
  obtain ⟨i0, hi, hz0, hz1, hz2⟩ := info_parts infoPos
  have hRl := (sentP_in (L := L)).2
  obtain ⟨R, hR⟩ : ∃ R, sentP L = R := ⟨_, rfl⟩
  rw [hR] at hRl ⊢
  have HR := Lib.hid hR
  clear hR
  have hRl2 : R.length ≤ 100000 := by omega
  go_enter Try.func71, Try.ntmps71
  go_wp2
  go_loopw [3, 4, 5] (fun v f i wr => ∃ (k : Nat) (op : Bool) (pre : List (Nat × Nat)), k ≤ L.length ∧ i = .int .i64 k ∧ f = .bool op ∧ wr.ownsRow w.heap.size 29 2 v pre.length (cellsV pre) ∧ Hid (pre ++ sentF L op k = R) ∧ Below w.heap.size w wr)
    (fun _ _ i _ => L.length - (intOf i).toNat)
  case atStart => exact ⟨0, true, [], Nat.zero_le _, rfl, rfl, World.ownsRow_nil _ _ _ _, Lib.hid (by rw [List.nil_append]; exact HR.out), Below.refl _ _⟩
  case round =>
    obtain ⟨k, op, pre, hk, rfl, rfl, hrow, HK, hB⟩ := hrel
    by_cases hlt : k < L.length
    · have hltI : (k : Int) < (L.length : Int) := by omega
      have hk0 : (0 : Int) ≤ (k : Int) := by omega
      have hLV := hL.below hB (Nat.le_refl _)
      obtain ⟨b, off, s, rfl, hb, hcell, hw1⟩ := emp_facts hLV hlt
      have hst := size_le_total L k hlt
      rcases hw1 with ⟨h1, rfl⟩ | ⟨h1, hse, hs⟩
      · cases hh : headB L k with
        | true =>
          have HK2 : Hid ((pre ++ [(k, 0)]) ++ sentF L true (k + 1) = R) := Lib.hid (by rw [← HK.out, sentF_head hlt h1 hh]; simp)
          have hpl : pre.length + 1 ≤ 100000 := by have := congrArg List.length HK2.out; simp at this; omega
          have HC := Lib.hid (cellsV_snoc pre (k, 0))
          have hkk : k = 0 ∨ ∃ k1, k = k1 + 1 ∧ emp L k1 = false := by
            simp only [headB, Bool.or_eq_true, decide_eq_true_eq, Bool.not_eq_true'] at hh
            by_cases h0 : k = 0
            · exact .inl h0
            · exact .inr ⟨k - 1, by omega, by rcases hh with hh | hh; exact absurd hh h0; exact hh⟩
          clear hh h1 HK
          have hcase : (((k : Int) == 0) = true) ∨ ∃ (k1 : Nat) (s2 : ByteArray), (k : Int) - 1 = (k1 : Int) ∧ (0 : Int) ≤ (k1 : Int) ∧ (k1 : Int) < (L.length : Int) ∧ ((k : Int) == 0) = false ∧ wr.cell? ⟨b, off + k1, none⟩ = some (.string s2) ∧ s2.toList.isEmpty = false := by
            rcases hkk with h0 | ⟨k1, hk1, he⟩
            · exact .inl (beq_iff_eq.2 (by omega))
            · obtain ⟨b', off', s2, e', _, hc2, hw2⟩ := emp_facts hLV (i := k1) (by omega)
              cases e'
              rcases hw2 with ⟨e, _⟩ | ⟨_, hse2, _⟩
              · rw [he] at e; cases e
              · exact .inr ⟨k1, s2, by omega, by omega, by omega, beq_eq_false_iff_ne.2 (by omega), hc2, hse2⟩
          clear hkk
          rcases hcase with h0 | ⟨k1, s2, e1, e2, e3, e4, hc2, hse2⟩
          all_goals (
            go_wp2_with (at_builtin; refine wpList_append_own _ rfl _ _ 43 rfl w.heap.size 29 i0 (.agg #[.int .i64 0, .int .i64 0]) 2 16 Try.underlying43 hi hz0 hz1 hz2 rfl (by decide) _ _ _ rfl (hrow.alloc _) ⟨wr.heap.size, 0, none⟩ 1 1 [.int .i64 (k : Int), .int .i64 0] rfl rfl (cell_two_new _ _ _ _) (by intro u hu; simp at hu; rcases hu with rfl | rfl <;> rfl) (by unfold maxLen; omega) (by omega) (by have := hB.size; simp; omega) ?_; intro v' w1 hown' hgrow _)
            have hB1 : Below w.heap.size w w1 := (hB.alloc hB.size _).grown hgrow (by have := hB.size; simp; omega) (fun r e => (hrow.lt r e).1)
            go_roundw
            case rel => exact ⟨k + 1, true, pre ++ [(k, 0)], by omega, by go_num, rfl, by rw [HC.out]; simpa using hown', HK2, hB1⟩
            case measure => simp [intOf]; omega)
        | false =>
          have HK2 : Hid (pre ++ sentF L true (k + 1) = R) := Lib.hid (by rw [← HK.out, sentF_more hlt h1 hh])
          obtain ⟨k1, s2, e1, e2, e3, e4, hc2⟩ : ∃ (k1 : Nat) (s2 : ByteArray), (k : Int) - 1 = (k1 : Int) ∧ (0 : Int) ≤ (k1 : Int) ∧ (k1 : Int) < (L.length : Int) ∧ ((k : Int) == 0) = false ∧ wr.cell? ⟨b, off + k1, none⟩ = some (.string ⟨#[]⟩) := by
            simp only [headB, Bool.or_eq_false_iff, decide_eq_false_iff_not, Bool.not_eq_false'] at hh
            obtain ⟨h0, he⟩ := hh
            obtain ⟨b', off', s2, e', _, hc2, hw2⟩ := emp_facts hLV (i := k - 1) (by omega)
            cases e'
            rcases hw2 with ⟨_, rfl⟩ | ⟨e, _, _⟩
            · exact ⟨k - 1, ⟨#[]⟩, by omega, by omega, by omega, beq_eq_false_iff_ne.2 (by omega), hc2⟩
            · rw [he] at e; cases e
          clear hh h1 HK
          go_wp2
          go_roundw
          case rel => exact ⟨k + 1, true, pre, by omega, by go_num, rfl, hrow, HK2, hB⟩
          case measure => simp [intOf]; omega
      · obtain ⟨b', off', s', e', _, hcell', _, HSL⟩ := line_facts' hLV hlt
        cases e'
        obtain rfl : s = s' := by have := hcell.symm.trans hcell'; simpa using this
        have hsz : s.size ≤ 100000 := by rw [HSL.out] at hst; omega
        have hline := sentF_line (op := op) hlt h1 HSL.out
        obtain ⟨O, hO⟩ : ∃ O, opF s op 0 = O := ⟨_, rfl⟩
        obtain ⟨sl, hsl⟩ : ∃ sl, solF s 0 = sl := ⟨_, rfl⟩
        rw [hO, hsl] at hline
        have HK0 : Hid (pre ++ (colF s op 0).map (fun c => (k, c)) ++ sentF L (O && sl) (k + 1) = R) := Lib.hid (by rw [← HK.out, hline, List.append_assoc])
        have HO := Lib.hid hO
        have HBL := Lib.hid (fun w0 => rblank_any s w0 (by omega))
        rw [hsl] at HBL
        clear hO hsl hline hcell' h1 HK hLV
        go_wp2
        refine name_world ?_
        intro wo hwo
        subst hwo
        go_loopw [3, 4, 7] (fun v f i wr => ∃ (j : Nat) (op' : Bool) (pre' : List (Nat × Nat)), j ≤ s.size ∧ i = .int .i64 j ∧ f = .bool op' ∧ wr.ownsRow w.heap.size 29 2 v pre'.length (cellsV pre') ∧ Hid (pre' ++ (colF s op' j).map (fun c => (k, c)) ++ sentF L (O && sl) (k + 1) = R) ∧ Hid (opF s op' j = O) ∧ Below w.heap.size w wr)
          (fun _ _ i _ => s.size - (intOf i).toNat)
        case atStart => exact ⟨0, op, pre, Nat.zero_le _, rfl, rfl, hrow, HK0, HO, hB⟩
        case round =>
          obtain ⟨j, op', pre', hj, rfl, rfl, hrow', HJ, HP, hB'⟩ := hrel
          by_cases hjl : j < s.size
          · have hjI : (j : Int) < (s.size : Int) := by omega
            have hj0 : (0 : Int) ≤ (j : Int) := by omega
            have HS := Lib.hid (fun w0 => rstop_any s j w0 (by omega) hjl)
            by_cases hc : clsT s j = 0
            · have HO2 := Lib.hid (fun w0 => rof_at s j hjl hc w0)
              have HJ2 : Hid (pre' ++ (colF s op' (j + 1)).map (fun c => (k, c)) ++ sentF L (O && sl) (k + 1) = R) := Lib.hid (by rw [← colF_blank hjl hc]; exact HJ.out)
              have HP2 : Hid (opF s op' (j + 1) = O) := Lib.hid (by rw [← opF_blank hjl hc]; exact HP.out)
              clear hc HJ HP
              go_wp2_with (go_at_call 101; refine (HO2.out _).mono ?_; rintro e w1 ⟨rfl, rfl⟩)
              go_roundw
              case rel => exact ⟨j + 1, op', pre', by omega, by go_num, rfl, hrow', HJ2, HP2, hB'⟩
              case measure => simp [intOf]; omega
            · obtain ⟨x, hx⟩ : ∃ x, clsT s j = x := ⟨_, rfl⟩
              have HO2 := Lib.hid (fun w0 => rof_at s j hjl hx w0)
              have hx0 : (x == 0) = false := by rw [beq_eq_false_iff_ne, ← hx]; exact hc
              obtain ⟨st, hst'⟩ : ∃ st, stopB s j = st := ⟨_, rfl⟩
              have HP2 : Hid (opF s st (j + 1) = O) := Lib.hid (by rw [← hst', ← opF_on hjl hc]; exact HP.out)
              have HST := Lib.hid hst'
              cases op' with
              | true =>
                have HJ2 : Hid ((pre' ++ [(k, j)]) ++ (colF s st (j + 1)).map (fun c => (k, c)) ++ sentF L (O && sl) (k + 1) = R) := Lib.hid (by rw [← HJ.out, colF_on hjl hc, hst']; simp)
                have hpl : pre'.length + 1 ≤ 100000 := by have := congrArg List.length HJ2.out; simp at this; omega
                have HC := Lib.hid (cellsV_snoc pre' (k, j))
                clear hc HJ HP hx hst'
                go_wp2_with (first | (go_at_call 101; refine (HO2.out _).mono ?_; rintro e w1 ⟨rfl, rfl⟩) | (go_at_call 131; refine (HS.out _).mono ?_; rw [HST.out]; rintro e w1 ⟨rfl, rfl⟩) | (at_builtin; refine wpList_append_own _ rfl _ _ 43 rfl w.heap.size 29 i0 (.agg #[.int .i64 0, .int .i64 0]) 2 16 Try.underlying43 hi hz0 hz1 hz2 rfl (by decide) _ _ _ rfl (hrow'.alloc _) ⟨wr.heap.size, 0, none⟩ 1 1 [.int .i64 (k : Int), .int .i64 (j : Int)] rfl rfl (cell_two_new _ _ _ _) (by intro u hu; simp at hu; rcases hu with rfl | rfl <;> rfl) (by unfold maxLen; omega) (by omega) (by have := hB'.size; simp; omega) ?_; intro v' w1 hown' hgrow _))
                have hB1 : Below w.heap.size w w1 := (hB'.alloc hB'.size _).grown hgrow (by have := hB'.size; simp; omega) (fun r e => (hrow'.lt r e).1)
                go_roundw
                case rel => exact ⟨j + 1, st, pre' ++ [(k, j)], by omega, by go_num, rfl, by rw [HC.out]; simpa using hown', HJ2, HP2, hB1⟩
                case measure => simp [intOf]; omega
              | false =>
                have HJ2 : Hid (pre' ++ (colF s st (j + 1)).map (fun c => (k, c)) ++ sentF L (O && sl) (k + 1) = R) := Lib.hid (by rw [← HJ.out, colF_off hjl hc, hst'])
                clear hc HJ HP hx hst'
                go_wp2_with (first | (go_at_call 101; refine (HO2.out _).mono ?_; rintro e w1 ⟨rfl, rfl⟩) | (go_at_call 131; refine (HS.out _).mono ?_; rw [HST.out]; rintro e w1 ⟨rfl, rfl⟩))
                go_roundw
                case rel => exact ⟨j + 1, st, pre', by omega, by go_num, rfl, hrow', HJ2, HP2, hB'⟩
                case measure => simp [intOf]; omega
          · have HK2 : Hid (pre' ++ sentF L (O && sl) (k + 1) = R) := Lib.hid (by rw [← HJ.out, colF_end (by omega)]; simp)
            obtain rfl : op' = O := by have := HP.out; rwa [opF_end (by omega)] at this
            clear HJ HP
            cases sl with
            | true =>
              rw [Bool.and_true] at HK2
              go_wp2_with (go_at_call 132; refine (HBL.out _).mono ?_; rintro e w1 ⟨rfl, rfl⟩)
              go_roundw
              case rel => exact ⟨k + 1, op', pre', by omega, by go_num, rfl, hrow', HK2, hB'⟩
              case measure => simp [intOf]; omega
            | false =>
              rw [Bool.and_false] at HK2
              go_wp2_with (go_at_call 132; refine (HBL.out _).mono ?_; rintro e w1 ⟨rfl, rfl⟩)
              go_roundw
              case rel => exact ⟨k + 1, false, pre', by omega, by go_num, rfl, hrow', HK2, hB'⟩
              case measure => simp [intOf]; omega
    · have e : pre = R := by have := HK.out; rwa [sentF_end (by omega), List.append_nil] at this
      subst e
      go_wp2
      go_ret
      exact ⟨_, rfl, hrow, hB⟩
end Go.Proofs.Ytlbbgocggifjaaa
