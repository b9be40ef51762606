/- The contract of the reference's list of a pattern's places. Conditions: none beyond what it says. -/
import Derived.Test.YtnaceobbbfbhhaaFindP
import Derived.Test.YtnaceobbbfbhhaaPara2
namespace Go.Proofs.Ytnaceobbbfbhhaa
open Go.RowKit Go.Shelf

set_option maxRecDepth 100000 in
set_option maxHeartbeats 8000000 in
theorem rall_any (a : Option Addr) (cap : Nat) (L : List ByteArray) (t : ByteArray) (w : World) (hL : LinesAt w a L) (htot : L.length + total L ≤ 100000) (ht : t.size ≤ 100000) : Calls Try.prog 41 #[.slice a L.length cap, .string t] w fun e w' =>
    ∃ v, e = .returned v ∧ w'.ownsRow w.heap.size 46 2 v (allP L t).length (cellsV (allP L t)) ∧ Below w.heap.size w w' := by
  have hn := hL.2.1
  obtain ⟨i0, hi, hz0, hz1, hz2⟩ := info_parts infoPos
  have hRl := (allP_in (L := L) (t := t)).2
  by_cases ht0 : t.size = 0
  · obtain rfl : t = ⟨#[]⟩ := str_nil ht0
    have hR : allP L ⟨#[]⟩ = [] := by rw [allP, if_pos ht0]
    rw [hR]
    clear hR ht0 hRl
    by_cases h0 : L.length = 0
    · have hltI : ¬ (0 : Int) < (L.length : Int) := by omega
      go_enter Try.func41, Try.ntmps41
      go_wp2
      go_loop [5, 6] (fun v i => i = .int .i64 0 ∧ v = .slice none 0 0) (fun _ _ => 0)
      case atStart => exact ⟨rfl, rfl⟩
      case round =>
        obtain ⟨rfl, rfl⟩ := hrel
        go_wp2
        go_ret
        exact ⟨_, rfl, World.ownsRow_nil _ _ _ _, Below.refl _ _⟩
    · have hltI : (0 : Int) < (L.length : Int) := by omega
      go_enter Try.func41, Try.ntmps41
      go_wp2
      go_loop [5, 6] (fun v i => i = .int .i64 0 ∧ v = .slice none 0 0) (fun _ _ => 0)
      case atStart => exact ⟨rfl, rfl⟩
      case round =>
        obtain ⟨rfl, rfl⟩ := hrel
        go_wp2
        go_ret
        exact ⟨_, rfl, World.ownsRow_nil _ _ _ _, Below.refl _ _⟩
  · obtain ⟨R, hR⟩ : ∃ R, allP L t = R := ⟨_, rfl⟩
    rw [hR] at hRl ⊢
    have HR : Hid (fAll L t 0 = R) := Lib.hid (by rw [← hR, allP, if_neg ht0])
    clear hR
    have hRl2 : R.length ≤ 100000 := by omega
    have hte := str_empty ht0
    have htp : 0 < t.size := by omega
    clear ht0
    go_enter Try.func41, Try.ntmps41
    go_wp2
    go_loopw [5, 6] (fun v i wr => ∃ (k : Nat) (pre : List (Nat × Nat)), k ≤ L.length ∧ i = .int .i64 k ∧ wr.ownsRow w.heap.size 46 2 v pre.length (cellsV pre) ∧ Hid (pre ++ fAll L t k = R) ∧ Below w.heap.size w wr)
      (fun _ i _ => L.length - (intOf i).toNat)
    case atStart => exact ⟨0, [], Nat.zero_le _, rfl, World.ownsRow_nil _ _ _ _, Lib.hid (by rw [List.nil_append]; exact HR.out), Below.refl _ _⟩
    case round =>
      obtain ⟨k, pre, hk, rfl, hrow, HK, hB⟩ := hrel
      by_cases hlt : k < L.length
      · have hltI : (k : Int) < (L.length : Int) := by omega
        have hk0 : (0 : Int) ≤ (k : Int) := by omega
        have hLV := hL.below hB (Nat.le_refl _)
        obtain ⟨b, off, s, rfl, hb, hcell, hs, HS⟩ := line_facts' hLV hlt
        have hst := size_le_total L k hlt
        have hsz : s.size ≤ 100000 := by rw [HS.out] at hst; omega
        have HK0 : Hid (pre ++ fRow s t k 0 ++ fAll L t (k + 1) = R) := Lib.hid (by rw [← HK.out, fAll_on hlt HS.out, List.append_assoc])
        clear HK hst hLV
        go_wp2
        go_loopw [5, 7] (fun v i wr => ∃ (j : Nat) (pre : List (Nat × Nat)), j ≤ s.size ∧ i = .int .i64 j ∧ wr.ownsRow w.heap.size 46 2 v pre.length (cellsV pre) ∧ Hid (pre ++ fRow s t k j ++ fAll L t (k + 1) = R) ∧ Below w.heap.size w wr)
          (fun _ i _ => s.size - (intOf i).toNat)
        case atStart => exact ⟨0, pre, Nat.zero_le _, rfl, hrow, HK0, hB⟩
        case round =>
          obtain ⟨j, pre', hj, rfl, hrow', HJ, hB'⟩ := hrel
          have hLV := hL.below hB' (Nat.le_refl _)
          obtain ⟨b', off', s', e', hb', hcell', hs', HS'⟩ := line_facts' hLV hlt
          cases e'
          obtain rfl : s = s' := HS.out.symm.trans HS'.out
          have hj0 : (0 : Int) ≤ (j : Int) := by omega
          have hst0 : (0 : Int) ≤ (j : Int) + (t.size : Int) := by omega
          clear hLV HS' hs'
          by_cases hin : j + t.size ≤ s.size
          · have hinI : (j : Int) + (t.size : Int) ≤ (s.size : Int) := by omega
            have hjl : j < s.size := by omega
            have etn : ((j : Int) + (t.size : Int)).toNat = j + t.size := by omega
            have hjle : (j : Int) ≤ (j : Int) + (t.size : Int) := by omega
            cases hh : ((s.extract j (j + t.size)).toList == t.toList) with
            | false =>
              have HJ2 : Hid (pre' ++ fRow s t k (j + 1) ++ fAll L t (k + 1) = R) := Lib.hid (by rw [← HJ.out, fRow_no hjl (by rw [hasB, decide_eq_true hin, Bool.true_and, hh])])
              clear HJ
              go_wp2
              go_roundw
              case rel => exact ⟨j + 1, pre', by omega, by go_num, hrow', HJ2, hB'⟩
              case measure => simp [intOf]; omega
            | true =>
              have HJ2 : Hid ((pre' ++ [(k, j)]) ++ fRow s t k (j + 1) ++ fAll L t (k + 1) = R) := Lib.hid (by rw [← HJ.out, fRow_yes hjl (by rw [hasB, decide_eq_true hin, Bool.true_and, hh])]; simp)
              have hpl : pre'.length + 1 ≤ 100000 := by have := congrArg List.length HJ2.out; simp at this; omega
              have HC := Lib.hid (cellsV_snoc pre' (k, j))
              clear HJ
              go_wp2_with (at_builtin; refine wpList_append_own _ rfl _ _ 48 rfl w.heap.size 46 i0 (.agg #[.int .i64 0, .int .i64 0]) 2 16 Try.underlying48 hi hz0 hz1 hz2 rfl (by decide) _ _ _ rfl (hrow'.alloc _) ⟨wr.heap.size, 0, none⟩ 1 1 [.int .i64 (k : Int), .int .i64 (j : Int)] rfl rfl (cell_two_new _ _ _ _) (by intro u hu; simp at hu; rcases hu with rfl | rfl <;> rfl) (by unfold maxLen; omega) (by omega) (by have := hB'.size; simp; omega) ?_; intro v' w1 hown' hgrow _)
              have hB1 : Below w.heap.size w w1 := (hB'.alloc hB'.size _).grown hgrow (by have := hB'.size; simp; omega) (fun r e => (hrow'.lt r e).1)
              go_roundw
              case rel => exact ⟨j + 1, pre' ++ [(k, j)], by omega, by go_num, by rw [HC.out]; simpa using hown', HJ2, hB1⟩
              case measure => simp [intOf]; omega
          · have hinI : ¬ (j : Int) + (t.size : Int) ≤ (s.size : Int) := by omega
            have HK2 : Hid (pre' ++ fAll L t (k + 1) = R) := Lib.hid (by rw [← HJ.out, fRow_out _ j rfl (by omega)]; simp)
            clear HJ HK0
            go_wp2
            go_roundw
            case rel => exact ⟨k + 1, pre', by omega, by go_num, hrow', HK2, hB'⟩
            case measure => simp [intOf]; omega
      · have hltI : ¬ (k : Int) < (L.length : Int) := by omega
        have e : pre = R := by have := HK.out; rwa [fAll_end (by omega), List.append_nil] at this
        subst e
        go_wp2
        go_ret
        exact ⟨_, rfl, hrow, hB⟩
end Go.Proofs.Ytnaceobbbfbhhaa
