/- The contracts of where sentences begin in a line, and, the reference's, in a text. Conditions: none beyond what each says. -/
import Derived.Test.YtnaceobbbfbhhaaSent
namespace Go.Proofs.Ytnaceobbbfbhhaa
open Go.RowKit Go.Shelf

theorem infoInt : (Try.prog.info? 3).map (fun i => (i.zero, i.size, i.bytes)) = some (some (.int .i64 0), 1, 8) := by kernel_rfl
theorem infoPos : (Try.prog.info? 46).map (fun i => (i.zero, i.size, i.bytes)) = some (some (.agg #[.int .i64 0, .int .i64 0]), 2, 16) := by kernel_rfl
/-- Numbers as cells. -/
abbrev cellsN (l : List Nat) : List Value := l.map (fun n : Nat => .int .i64 (n : Int))
set_option maxRecDepth 100000 in
set_option maxHeartbeats 4000000 in
theorem starts_any (s : ByteArray) (op : Bool) (w : World) (hs : s.size ≤ 100000) : Calls Try.prog 99 #[.string s, .bool op] w fun e w' =>
    ∃ v, e = .returned (.tuple #[v, .bool (opF s op 0)]) ∧ w'.ownsRow w.heap.size 3 1 v (colF s op 0).length (cellsN (colF s op 0)) ∧ Below w.heap.size w w' := by
  obtain ⟨i0, hi, hz0, hz1, hz2⟩ := info_parts infoInt
  obtain ⟨R, hR⟩ : ∃ R, colF s op 0 = R := ⟨_, rfl⟩
  obtain ⟨O, hO⟩ : ∃ O, opF s op 0 = O := ⟨_, rfl⟩
  rw [hR, hO]
  have HR := Lib.hid hR
  have HO := Lib.hid hO
  clear hR hO
  go_enter Try.func99, Try.ntmps99
  go_wp2
  go_loopw [1, 6, 10] (fun o v i wr => ∃ (k : Nat) (op' : Bool) (pre : List Nat), k ≤ s.size ∧ i = .int .i64 k ∧ o = .bool op' ∧ pre.length ≤ k ∧ wr.ownsRow w.heap.size 3 1 v pre.length (cellsN pre) ∧ Hid (pre ++ colF s op' k = R) ∧ Hid (opF s op' k = O) ∧ Below w.heap.size w wr)
    (fun _ _ i _ => s.size - (intOf i).toNat)
  case atStart => exact ⟨0, op, [], Nat.zero_le _, rfl, rfl, Nat.le_refl _, World.ownsRow_nil _ _ _ _, Lib.hid (by rw [List.nil_append]; exact HR.out), HO, Below.refl _ _⟩
  case round =>
    obtain ⟨k, op', pre, hk, rfl, rfl, hp, hrow, HK, HP, hB⟩ := hrel
    by_cases hlt : k < s.size
    · have hltI : (k : Int) < (s.size : Int) := by omega
      have hk0 : (0 : Int) ≤ (k : Int) := by omega
      have HS := Lib.hid (fun w0 => pstop_any s k w0 (by omega) hlt)
      by_cases hc : clsT s k = 0
      · have HO2 := Lib.hid (fun w0 => of_at s k hlt hc w0)
        have HK2 : Hid (pre ++ colF s op' (k + 1) = R) := Lib.hid (by rw [← colF_blank hlt hc]; exact HK.out)
        have HP2 : Hid (opF s op' (k + 1) = O) := Lib.hid (by rw [← opF_blank hlt hc]; exact HP.out)
        have HSB := Lib.hid (stop_solid hc)
        clear hc HK HP
        cases op' with
        | true =>
          go_wp2_with (go_at_call 92; refine (HO2.out _).mono ?_; rintro e w1 ⟨rfl, rfl⟩)
          go_roundw
          case rel => exact ⟨k + 1, true, pre, by omega, by go_num, rfl, by omega, hrow, HK2, HP2, hB⟩
          case measure => simp [intOf]; omega
        | false =>
          go_wp2_with (go_at_call 119; refine (HS.out _).mono ?_; rw [HSB.out]; rintro e w1 ⟨rfl, rfl⟩)
          go_roundw
          case rel => exact ⟨k + 1, false, pre, by omega, by go_num, rfl, by omega, hrow, HK2, HP2, hB⟩
          case measure => simp [intOf]; omega
      · obtain ⟨x, hx⟩ : ∃ x, clsT s k = x := ⟨_, rfl⟩
        have HO2 := Lib.hid (fun w0 => of_at s k hlt hx w0)
        have hx0 : (x != 0) = true := by rw [bne_iff_ne, ← hx]; exact hc
        obtain ⟨st, hst⟩ : ∃ st, stopB s k = st := ⟨_, rfl⟩
        have HP2 : Hid (opF s st (k + 1) = O) := Lib.hid (by rw [← hst, ← opF_on hlt hc]; exact HP.out)
        have HST := Lib.hid hst
        cases op' with
        | true =>
          have HK2 : Hid ((pre ++ [k]) ++ colF s st (k + 1) = R) := Lib.hid (by rw [← HK.out, colF_on hlt hc, hst]; simp)
          have HC : Hid (cellsN (pre ++ [k]) = cellsN pre ++ [.int .i64 (k : Int)]) := Lib.hid (by simp [cellsN])
          clear hc HK HP hx hst
          go_wp2_with (first | (go_at_call 92; refine (HO2.out _).mono ?_; rintro e w1 ⟨rfl, rfl⟩) | (go_at_call 119; refine (HS.out _).mono ?_; rw [HST.out]; rintro e w1 ⟨rfl, rfl⟩) | (at_builtin; refine wpList_append_own _ rfl _ _ 57 rfl w.heap.size 3 i0 (.int .i64 0) 1 8 Try.underlying57 hi hz0 hz1 hz2 rfl (by decide) _ _ _ rfl (hrow.alloc _) ⟨wr.heap.size, 0, none⟩ 1 1 [.int .i64 (k : Int)] rfl rfl (cell_one_new _ _ _) (by intro u hu; simp at hu; rcases hu with rfl; rfl) (by unfold maxLen; omega) (by omega) (by have := hB.size; simp; omega) ?_; intro v' w1 hown' hgrow _))
          have hB1 : Below w.heap.size w w1 := (hB.alloc hB.size _).grown hgrow (by have := hB.size; simp; omega) (fun r e => (hrow.lt r e).1)
          go_roundw
          case rel => exact ⟨k + 1, st, pre ++ [k], by omega, by go_num, rfl, by simp; omega, by rw [HC.out]; simpa using hown', HK2, HP2, hB1⟩
          case measure => simp [intOf]; omega
        | false =>
          have HK2 : Hid (pre ++ colF s st (k + 1) = R) := Lib.hid (by rw [← HK.out, colF_off hlt hc, hst])
          clear hc HK HP hx hst
          go_wp2_with (go_at_call 119; refine (HS.out _).mono ?_; rw [HST.out]; rintro e w1 ⟨rfl, rfl⟩)
          go_roundw
          case rel => exact ⟨k + 1, st, pre, by omega, by go_num, rfl, by omega, hrow, HK2, HP2, hB⟩
          case measure => simp [intOf]; omega
    · have e : pre = R := by have := HK.out; rwa [colF_end (by omega), List.append_nil] at this
      have e2 : op' = O := by have := HP.out; rwa [opF_end (by omega)] at this
      subst e e2
      go_wp2
      go_ret2
      exact ⟨_, rfl, hrow, hB⟩

set_option maxRecDepth 100000 in
set_option maxHeartbeats 8000000 in
theorem rsent_any (a : Option Addr) (cap : Nat) (L : List ByteArray) (w : World) (hL : LinesAt w a L) (htot : L.length + total L ≤ 100000) : Calls Try.prog 57 #[.slice a L.length cap] w fun e w' =>
    ∃ v, e = .returned v ∧ w'.ownsRow w.heap.size 46 2 v (sentP L).length (cellsV (sentP L)) ∧ Below w.heap.size w w' := by
  have hn := hL.2.1
  obtain ⟨i0, hi, hz0, hz1, hz2⟩ := info_parts infoPos
  have hRl := (sentP_in (L := L)).2
  obtain ⟨R, hR⟩ : ∃ R, sentP L = R := ⟨_, rfl⟩
  rw [hR] at hRl ⊢
  have HR := Lib.hid hR
  clear hR
  have hRl2 : R.length ≤ 100000 := by omega
  go_enter Try.func57, Try.ntmps57
  go_wp2
  go_loopw [3, 4, 5] (fun v f i wr => ∃ (k : Nat) (op : Bool) (pre : List (Nat × Nat)), k ≤ L.length ∧ i = .int .i64 k ∧ f = .bool op ∧ wr.ownsRow w.heap.size 46 2 v pre.length (cellsV pre) ∧ Hid (pre ++ sentF L op k = R) ∧ Below w.heap.size w wr)
    (fun _ _ i _ => L.length - (intOf i).toNat)
  case atStart => exact ⟨0, true, [], Nat.zero_le _, rfl, rfl, World.ownsRow_nil _ _ _ _, Lib.hid (by rw [List.nil_append]; exact HR.out), Below.refl _ _⟩
  case round =>
    obtain ⟨k, op, pre, hk, rfl, rfl, hrow, HK, hB⟩ := hrel
    by_cases hlt : k < L.length
    · have hltI : (k : Int) < (L.length : Int) := by omega
      have hk0 : (0 : Int) ≤ (k : Int) := by omega
      have hLV := hL.below hB (Nat.le_refl _)
      obtain ⟨b, off, s, rfl, hb, hcell, hw1⟩ := emp_facts hLV hlt
      have hst := size_le_total L k hlt
      rcases hw1 with ⟨h1, rfl⟩ | ⟨h1, hse, hs⟩
      · cases hh : headB L k with
        | true =>
          have HK2 : Hid ((pre ++ [(k, 0)]) ++ sentF L true (k + 1) = R) := Lib.hid (by rw [← HK.out, sentF_head hlt h1 hh]; simp)
          have hpl : pre.length + 1 ≤ 100000 := by have := congrArg List.length HK2.out; simp at this; omega
          have HC := Lib.hid (cellsV_snoc pre (k, 0))
          have hkk : k = 0 ∨ ∃ k1, k = k1 + 1 ∧ emp L k1 = false := by
            simp only [headB, Bool.or_eq_true, decide_eq_true_eq, Bool.not_eq_true'] at hh
            by_cases h0 : k = 0
            · exact .inl h0
            · exact .inr ⟨k - 1, by omega, by rcases hh with hh | hh; exact absurd hh h0; exact hh⟩
          clear hh h1 HK
          have hcase : (((k : Int) == 0) = true) ∨ ∃ (k1 : Nat) (s2 : ByteArray), (k : Int) - 1 = (k1 : Int) ∧ (0 : Int) ≤ (k1 : Int) ∧ (k1 : Int) < (L.length : Int) ∧ ((k : Int) == 0) = false ∧ wr.cell? ⟨b, off + k1, none⟩ = some (.string s2) ∧ s2.toList.isEmpty = false := by
            rcases hkk with h0 | ⟨k1, hk1, he⟩
            · exact .inl (beq_iff_eq.2 (by omega))
            · obtain ⟨b', off', s2, e', _, hc2, hw2⟩ := emp_facts hLV (i := k1) (by omega)
              cases e'
              rcases hw2 with ⟨e, _⟩ | ⟨_, hse2, _⟩
              · rw [he] at e; cases e
              · exact .inr ⟨k1, s2, by omega, by omega, by omega, beq_eq_false_iff_ne.2 (by omega), hc2, hse2⟩
          clear hkk
          rcases hcase with h0 | ⟨k1, s2, e1, e2, e3, e4, hc2, hse2⟩
          all_goals (
            go_wp2_with (at_builtin; refine wpList_append_own _ rfl _ _ 48 rfl w.heap.size 46 i0 (.agg #[.int .i64 0, .int .i64 0]) 2 16 Try.underlying48 hi hz0 hz1 hz2 rfl (by decide) _ _ _ rfl (hrow.alloc _) ⟨wr.heap.size, 0, none⟩ 1 1 [.int .i64 (k : Int), .int .i64 0] rfl rfl (cell_two_new _ _ _ _) (by intro u hu; simp at hu; rcases hu with rfl | rfl <;> rfl) (by unfold maxLen; omega) (by omega) (by have := hB.size; simp; omega) ?_; intro v' w1 hown' hgrow _)
            have hB1 : Below w.heap.size w w1 := (hB.alloc hB.size _).grown hgrow (by have := hB.size; simp; omega) (fun r e => (hrow.lt r e).1)
            go_roundw
            case rel => exact ⟨k + 1, true, pre ++ [(k, 0)], by omega, by go_num, rfl, by rw [HC.out]; simpa using hown', HK2, hB1⟩
            case measure => simp [intOf]; omega)
        | false =>
          have HK2 : Hid (pre ++ sentF L true (k + 1) = R) := Lib.hid (by rw [← HK.out, sentF_more hlt h1 hh])
          obtain ⟨k1, s2, e1, e2, e3, e4, hc2⟩ : ∃ (k1 : Nat) (s2 : ByteArray), (k : Int) - 1 = (k1 : Int) ∧ (0 : Int) ≤ (k1 : Int) ∧ (k1 : Int) < (L.length : Int) ∧ ((k : Int) == 0) = false ∧ wr.cell? ⟨b, off + k1, none⟩ = some (.string ⟨#[]⟩) := by
            simp only [headB, Bool.or_eq_false_iff, decide_eq_false_iff_not, Bool.not_eq_false'] at hh
            obtain ⟨h0, he⟩ := hh
            obtain ⟨b', off', s2, e', _, hc2, hw2⟩ := emp_facts hLV (i := k - 1) (by omega)
            cases e'
            rcases hw2 with ⟨_, rfl⟩ | ⟨e, _, _⟩
            · exact ⟨k - 1, ⟨#[]⟩, by omega, by omega, by omega, beq_eq_false_iff_ne.2 (by omega), hc2⟩
            · rw [he] at e; cases e
          clear hh h1 HK
          go_wp2
          go_roundw
          case rel => exact ⟨k + 1, true, pre, by omega, by go_num, rfl, hrow, HK2, hB⟩
          case measure => simp [intOf]; omega
      · obtain ⟨b', off', s', e', _, hcell', _, HSL⟩ := line_facts' hLV hlt
        cases e'
        obtain rfl : s = s' := by have := hcell.symm.trans hcell'; simpa using this
        have hsz : s.size ≤ 100000 := by rw [HSL.out] at hst; omega
        have hline := sentF_line (op := op) hlt h1 HSL.out
        obtain ⟨O, hO⟩ : ∃ O, opF s op 0 = O := ⟨_, rfl⟩
        obtain ⟨sl, hsl⟩ : ∃ sl, solF s 0 = sl := ⟨_, rfl⟩
        rw [hO, hsl] at hline
        have HK0 : Hid (pre ++ (colF s op 0).map (fun c => (k, c)) ++ sentF L (O && sl) (k + 1) = R) := Lib.hid (by rw [← HK.out, hline, List.append_assoc])
        have HO := Lib.hid hO
        have HBL := Lib.hid (fun w0 => rblank_any s w0 (by omega))
        rw [hsl] at HBL
        clear hO hsl hline hcell' h1 HK hLV
        go_wp2
        refine name_world ?_
        intro wo hwo
        subst hwo
        go_loopw [3, 4, 7] (fun v f i wr => ∃ (j : Nat) (op' : Bool) (pre' : List (Nat × Nat)), j ≤ s.size ∧ i = .int .i64 j ∧ f = .bool op' ∧ wr.ownsRow w.heap.size 46 2 v pre'.length (cellsV pre') ∧ Hid (pre' ++ (colF s op' j).map (fun c => (k, c)) ++ sentF L (O && sl) (k + 1) = R) ∧ Hid (opF s op' j = O) ∧ Below w.heap.size w wr)
          (fun _ _ i _ => s.size - (intOf i).toNat)
        case atStart => exact ⟨0, op, pre, Nat.zero_le _, rfl, rfl, hrow, HK0, HO, hB⟩
        case round =>
          obtain ⟨j, op', pre', hj, rfl, rfl, hrow', HJ, HP, hB'⟩ := hrel
          by_cases hjl : j < s.size
          · have hjI : (j : Int) < (s.size : Int) := by omega
            have hj0 : (0 : Int) ≤ (j : Int) := by omega
            have HS := Lib.hid (fun w0 => rstop_any s j w0 (by omega) hjl)
            by_cases hc : clsT s j = 0
            · have HO2 := Lib.hid (fun w0 => rof_at s j hjl hc w0)
              have HJ2 : Hid (pre' ++ (colF s op' (j + 1)).map (fun c => (k, c)) ++ sentF L (O && sl) (k + 1) = R) := Lib.hid (by rw [← colF_blank hjl hc]; exact HJ.out)
              have HP2 : Hid (opF s op' (j + 1) = O) := Lib.hid (by rw [← opF_blank hjl hc]; exact HP.out)
              clear hc HJ HP
              go_wp2_with (go_at_call 48; refine (HO2.out _).mono ?_; rintro e w1 ⟨rfl, rfl⟩)
              go_roundw
              case rel => exact ⟨j + 1, op', pre', by omega, by go_num, rfl, hrow', HJ2, HP2, hB'⟩
              case measure => simp [intOf]; omega
            · obtain ⟨x, hx⟩ : ∃ x, clsT s j = x := ⟨_, rfl⟩
              have HO2 := Lib.hid (fun w0 => rof_at s j hjl hx w0)
              have hx0 : (x == 0) = false := by rw [beq_eq_false_iff_ne, ← hx]; exact hc
              obtain ⟨st, hst'⟩ : ∃ st, stopB s j = st := ⟨_, rfl⟩
              have HP2 : Hid (opF s st (j + 1) = O) := Lib.hid (by rw [← hst', ← opF_on hjl hc]; exact HP.out)
              have HST := Lib.hid hst'
              cases op' with
              | true =>
                have HJ2 : Hid ((pre' ++ [(k, j)]) ++ (colF s st (j + 1)).map (fun c => (k, c)) ++ sentF L (O && sl) (k + 1) = R) := Lib.hid (by rw [← HJ.out, colF_on hjl hc, hst']; simp)
                have hpl : pre'.length + 1 ≤ 100000 := by have := congrArg List.length HJ2.out; simp at this; omega
                have HC := Lib.hid (cellsV_snoc pre' (k, j))
                clear hc HJ HP hx hst'
                go_wp2_with (first | (go_at_call 48; refine (HO2.out _).mono ?_; rintro e w1 ⟨rfl, rfl⟩) | (go_at_call 101; refine (HS.out _).mono ?_; rw [HST.out]; rintro e w1 ⟨rfl, rfl⟩) | (at_builtin; refine wpList_append_own _ rfl _ _ 48 rfl w.heap.size 46 i0 (.agg #[.int .i64 0, .int .i64 0]) 2 16 Try.underlying48 hi hz0 hz1 hz2 rfl (by decide) _ _ _ rfl (hrow'.alloc _) ⟨wr.heap.size, 0, none⟩ 1 1 [.int .i64 (k : Int), .int .i64 (j : Int)] rfl rfl (cell_two_new _ _ _ _) (by intro u hu; simp at hu; rcases hu with rfl | rfl <;> rfl) (by unfold maxLen; omega) (by omega) (by have := hB'.size; simp; omega) ?_; intro v' w1 hown' hgrow _))
                have hB1 : Below w.heap.size w w1 := (hB'.alloc hB'.size _).grown hgrow (by have := hB'.size; simp; omega) (fun r e => (hrow'.lt r e).1)
                go_roundw
                case rel => exact ⟨j + 1, st, pre' ++ [(k, j)], by omega, by go_num, rfl, by rw [HC.out]; simpa using hown', HJ2, HP2, hB1⟩
                case measure => simp [intOf]; omega
              | false =>
                have HJ2 : Hid (pre' ++ (colF s st (j + 1)).map (fun c => (k, c)) ++ sentF L (O && sl) (k + 1) = R) := Lib.hid (by rw [← HJ.out, colF_off hjl hc, hst'])
                clear hc HJ HP hx hst'
                go_wp2_with (first | (go_at_call 48; refine (HO2.out _).mono ?_; rintro e w1 ⟨rfl, rfl⟩) | (go_at_call 101; refine (HS.out _).mono ?_; rw [HST.out]; rintro e w1 ⟨rfl, rfl⟩))
                go_roundw
                case rel => exact ⟨j + 1, st, pre', by omega, by go_num, rfl, hrow', HJ2, HP2, hB'⟩
                case measure => simp [intOf]; omega
          · have HK2 : Hid (pre' ++ sentF L (O && sl) (k + 1) = R) := Lib.hid (by rw [← HJ.out, colF_end (by omega)]; simp)
            obtain rfl : op' = O := by have := HP.out; rwa [opF_end (by omega)] at this
            clear HJ HP
            cases sl with
            | true =>
              rw [Bool.and_true] at HK2
              go_wp2_with (go_at_call 102; refine (HBL.out _).mono ?_; rintro e w1 ⟨rfl, rfl⟩)
              go_roundw
              case rel => exact ⟨k + 1, op', pre', by omega, by go_num, rfl, hrow', HK2, hB'⟩
              case measure => simp [intOf]; omega
            | false =>
              rw [Bool.and_false] at HK2
              go_wp2_with (go_at_call 102; refine (HBL.out _).mono ?_; rintro e w1 ⟨rfl, rfl⟩)
              go_roundw
              case rel => exact ⟨k + 1, false, pre', by omega, by go_num, rfl, hrow', HK2, hB'⟩
              case measure => simp [intOf]; omega
    · have e : pre = R := by have := HK.out; rwa [sentF_end (by omega), List.append_nil] at this
      subst e
      go_wp2
      go_ret
      exact ⟨_, rfl, hrow, hB⟩
end Go.Proofs.Ytnaceobbbfbhhaa
