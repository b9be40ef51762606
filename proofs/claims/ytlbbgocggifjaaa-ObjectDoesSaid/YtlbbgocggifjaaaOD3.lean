/- Several texts in one: RBlk. Conditions: none beyond what each says. -/
import Derived.Test.YtlbbgocggifjaaaOI11
import Derived.Test.YtlbbgocggifjaaaOI15
import Derived.Test.YtlbbgocggifjaaaOI23
import Derived.Test.YtlbbgocggifjaaaOI24
namespace Go.Proofs.Ytlbbgocggifjaaa
open Go.RowKit Go.Shelf

theorem cell_two_newB {w : World} {n : Nat} (h : n = w.heap.size) (a b : Value) (t : TypeId) : ∀ j u, [a, b][j]? = some u → (w.alloc (.cells #[a, b] t)).cell? ((⟨n, 0, none⟩ : Addr).add j) = some u := by
  subst h
  exact cell_two_new w a b t
theorem own_ovrB {w x : World} {base size k : Nat} {t : TypeId} {v : Value} {xs : List Value} (h : w.ownsRow base t size v k xs) : (ovr w x).ownsRow base t size v k xs := h.kept (show w.grownBy (ovr w x) none from ⟨(below_ovr w x).os, (below_ovr w x).tape, (below_ovr w x).output, (below_ovr w x).size, fun k hk _ => (below_ovr w x).block k hk⟩) (by
  cases hv : v.ownBlock with
  | none => exact .inl rfl
  | some j => exact .inr (by simp))
set_option maxRecDepth 100000 in
set_option maxHeartbeats 4000000 in
theorem rblk_any (a : Option Addr) (cap : Nat) (L : List ByteArray) (w : World) (hL : LinesAt w a L) (hl4 : L.length ≤ 100000) : Calls Try.prog 80 #[.slice a L.length cap] w fun e w' =>
    ∃ ra rcap, e = .returned (.slice ra (blkP L).length rcap) ∧ PairsAt w' ra (blkP L) ∧ (blkP L).length ≤ rcap ∧ (∀ g, ra = some ⟨g, 0, none⟩ → w.heap.size ≤ g) ∧ Below w.heap.size w w' := by
  have hn := hL.2.1
  obtain ⟨i0, hi, hz0, hz1, hz2⟩ := info_parts infoRun
  obtain ⟨R, hR⟩ : ∃ R, blkP L = R := ⟨_, rfl⟩
  rw [hR]
  have HR := Lib.hid hR
  clear hR
  go_enter Try.func80, Try.ntmps80
  go_wp2
  go_loopw [3, 4] (fun v i wr => ∃ (k : Nat) (O : List (Nat × Nat)), k ≤ L.length ∧ i = .int .i64 k ∧ wr.ownsRow w.heap.size 54 2 v O.length (cellsV O) ∧ O.length ≤ k ∧ Below w.heap.size w wr ∧
    ((k = 0 ∧ O = []) ∨ ∃ (j : Nat) (pre : List (Nat × Nat)) (fr : Nat), k = j + 1 ∧ O = pre ++ [(fr, k)] ∧ Hid (pre ++ blkF L fr j = R)))
    (fun _ i _ => L.length - (intOf i).toNat)
  case atStart => exact ⟨0, [], Nat.zero_le _, rfl, World.ownsRow_nil _ _ _ _, Nat.le_refl _, Below.refl _ _, .inl ⟨rfl, rfl⟩⟩
  case round =>
    obtain ⟨k, O, hk, rfl, hrow, hO, hB, hcase⟩ := hrel
    have hBs := hB.size
    by_cases hlt : k < L.length
    · have hltI : (k : Int) < (L.length : Int) := by omega
      have hk0 : (0 : Int) ≤ (k : Int) := by omega
      rcases hcase with ⟨hk0, rfl⟩ | ⟨j, pre, fr, hkj, rfl, HK⟩
      · have t0 : decide (0 < k) = false := decide_eq_false (by omega)
        have t0N : ¬ 0 < k := by omega
        have HK2 : Hid (([] : List (Nat × Nat)) ++ blkF L k k = R) := Lib.hid (by rw [hk0, List.nil_append]; exact HR.out)
        have HC := Lib.hid (cellsV_snoc [] (k, k + 1))
        clear hk0
        go_wp2
        (refine wp_region_ovr (by kernel_rfl) (by kernel_rfl) ?_; (repeat (go_big_quiet_step (fail))); refine wpQuiet_nil ?_; rintro _ ⟨zq, rfl⟩)
        have hrow1 := own_ovrB (x := zq) hrow
        have hB1 := hB.trans ((below_ovr wr zq).mono hBs)
        go_wp2_with (at_builtin; refine wpList_append_own _ rfl _ _ 32 rfl w.heap.size 54 i0 (.agg #[.int .i64 0, .int .i64 0]) 2 16 Try.underlying32 hi hz0 hz1 hz2 rfl (by decide) _ _ _ rfl (hrow1.alloc _) ⟨wr.heap.size + zq.heap.size, 0, none⟩ 1 1 [.int .i64 (k : Int), .int .i64 ((k : Int) + 1)] rfl rfl (cell_two_newB (by simp) _ _ _) (by intro u hu; simp at hu; rcases hu with rfl | rfl <;> rfl) (by unfold maxLen; omega) (by omega) (by simp; omega) ?_; intro v' w1 hown' hgrow _)
        have hB2 : Below w.heap.size w w1 := (hB1.alloc hB1.size _).grown hgrow (by have := hB1.size; simp at this ⊢; omega) (fun r e => (hrow1.lt r e).1)
        go_roundw
        case rel => exact ⟨k + 1, [(k, k + 1)], by omega, by go_num, by rw [List.nil_append] at HC; simpa [cellsV] using hown', by simp, hB2, .inr ⟨k, [], k, rfl, rfl, HK2⟩⟩
        case measure => simp [intOf]; omega
      · have t0 : decide (0 < k) = true := decide_eq_true (by omega)
        have t0N : 0 < k := by omega
        have ej : (k : Int) - 1 = (j : Int) := by omega
        have hj : j < L.length := by omega
        have hjI : (j : Int) < (L.length : Int) := by omega
        have hj0 : (0 : Int) ≤ (j : Int) := by omega
        have hLV := hL.below hB (Nat.le_refl _)
        obtain ⟨b, off, s, rfl, hb, hcell, hw1⟩ := emp_facts hLV hlt
        obtain ⟨b', off', s2, e', _, hc2, hw2⟩ := emp_facts hLV hj
        cases e'
        have hpl : (pre ++ [(fr, k)]).length = pre.length + 1 := by simp
        by_cases h2 : emp L k = emp L j
        · have HK2 : Hid (pre ++ blkF L fr k = R) := Lib.hid (by rw [hkj, ← blk_on (by omega) (by rw [← hkj]; exact h2)]; exact HK.out)
          rw [hpl] at hrow hO
          obtain ⟨g, gcap, hve⟩ := ownsRow_succ hrow
          subst hve
          have hcell2 := World.ownsRow.cells hrow (g := g) rfl (pre.length * 2 + 1) _ (by rw [cellsV_snoc, List.getElem?_append_right (by rw [cellsV_len]; omega), cellsV_len, show pre.length * 2 + 1 - pre.length * 2 = 1 by omega]; rfl)
          rw [addr_add] at hcell2
          have hfr := World.ownsRow.frozenAt hrow (pre.length * 2 + 1)
          obtain ⟨hst, hgs⟩ := World.ownsRow.stored hrow (pre.length * 2 + 1) (.int .i64 ((k + 1 : Nat) : Int))
          rw [cellsV_set] at hst
          have hgw := (hrow.lt g rfl).1
          have hgw2 := (hrow.lt g rfl).2
          have HST := Lib.hid hst
          have ep : ((pre.length : Int) + 1) - 1 = (pre.length : Int) := by omega
          have hp0 : (0 : Int) ≤ (pre.length : Int) := by omega
          have hp1 : (pre.length : Int) < (pre.length : Int) + 1 := by omega
          rcases hw1 with ⟨g1, rfl⟩ | ⟨g1, hse, _⟩ <;> rcases hw2 with ⟨g2, rfl⟩ | ⟨g2, hse2, _⟩
          · skip
            clear HK h2 hpl hkj hst hgs g1 g2
            go_wp2
            (refine wp_region_ovr (by kernel_rfl) (by kernel_rfl) ?_; (repeat (go_big_quiet_step (fail))); refine wpQuiet_nil ?_; rintro _ ⟨zq, rfl⟩)
            go_wp2
            go_roundw
            case rel => exact ⟨k + 1, pre ++ [(fr, k + 1)], by omega, by go_num, by rw [show ((k : Int) + 1) = ((k + 1 : Nat) : Int) by omega, List.length_append]; exact own_ovrB HST.out, by simp; omega, (hB.setCell (p := ⟨g, pre.length * 2 + 1, none⟩) hgw _).trans ((below_ovr _ zq).mono (by simp; omega)), .inr ⟨k, pre, fr, rfl, rfl, HK2⟩⟩
            case measure => simp [intOf]; omega
          · rw [g1, g2] at h2; cases h2
          · rw [g1, g2] at h2; cases h2
          · clear HK h2 hpl hkj hst hgs g1 g2
            go_wp2
            (refine wp_region_ovr (by kernel_rfl) (by kernel_rfl) ?_; (repeat (go_big_quiet_step (fail))); refine wpQuiet_nil ?_; rintro _ ⟨zq, rfl⟩)
            go_wp2
            go_roundw
            case rel => exact ⟨k + 1, pre ++ [(fr, k + 1)], by omega, by go_num, by rw [show ((k : Int) + 1) = ((k + 1 : Nat) : Int) by omega, List.length_append]; exact own_ovrB HST.out, by simp; omega, (hB.setCell (p := ⟨g, pre.length * 2 + 1, none⟩) hgw _).trans ((below_ovr _ zq).mono (by simp; omega)), .inr ⟨k, pre, fr, rfl, rfl, HK2⟩⟩
            case measure => simp [intOf]; omega
        · have HK2 : Hid ((pre ++ [(fr, k)]) ++ blkF L k k = R) := Lib.hid (by rw [← HK.out, blk_cut hj (fun hc => h2 (by rw [hkj]; exact hc.2)), ← hkj]; simp)
          have HC := Lib.hid (cellsV_snoc (pre ++ [(fr, k)]) (k, k + 1))
          rw [hpl] at hrow hO
          rcases hw1 with ⟨g1, rfl⟩ | ⟨g1, hse, _⟩ <;> rcases hw2 with ⟨g2, rfl⟩ | ⟨g2, hse2, _⟩
          · exact absurd (g1.trans g2.symm) h2
          rotate_left 2
          · exact absurd (g1.trans g2.symm) h2
          all_goals (
            clear HK h2 hpl hkj g1 g2
            go_wp2
            (refine wp_region_ovr (by kernel_rfl) (by kernel_rfl) ?_; (repeat (go_big_quiet_step (fail))); refine wpQuiet_nil ?_; rintro _ ⟨zq, rfl⟩)
            have hrow1 := own_ovrB (x := zq) hrow
            have hB1 := hB.trans ((below_ovr wr zq).mono hBs)
            go_wp2_with (at_builtin; refine wpList_append_own _ rfl _ _ 32 rfl w.heap.size 54 i0 (.agg #[.int .i64 0, .int .i64 0]) 2 16 Try.underlying32 hi hz0 hz1 hz2 rfl (by decide) _ _ _ rfl (hrow1.alloc _) ⟨wr.heap.size + zq.heap.size, 0, none⟩ 1 1 [.int .i64 (k : Int), .int .i64 ((k : Int) + 1)] rfl rfl (cell_two_newB (by simp) _ _ _) (by intro u hu; simp at hu; rcases hu with rfl | rfl <;> rfl) (by unfold maxLen; omega) (by omega) (by simp; omega) ?_; intro v' w1 hown' hgrow _)
            have hB2 : Below w.heap.size w w1 := (hB1.alloc hB1.size _).grown hgrow (by have := hB1.size; simp at this ⊢; omega) (fun r e => (hrow1.lt r e).1)
            go_roundw
            case rel => exact ⟨k + 1, (pre ++ [(fr, k)]) ++ [(k, k + 1)], by omega, by go_num, by rw [HC.out]; simpa using hown', by simp; omega, hB2, .inr ⟨k, pre ++ [(fr, k)], k, rfl, rfl, HK2⟩⟩
            case measure => simp [intOf]; omega)
    · have e : O = R := by
        rcases hcase with ⟨hk0, rfl⟩ | ⟨j, pre, fr, hkj, rfl, HK⟩
        · have := HR.out; rw [blkP, blk_end (by omega)] at this; exact this
        · have := HK.out
          rw [blk_cut (by omega) (fun hc => by omega), blk_end (by omega), ← hkj] at this
          exact this
      subst e
      obtain ⟨ra, rcap, hve, hpa, hcap⟩ := pairs_of_owns_cap hrow
      subst hve
      have hbase := Lib.hid (tri_base hrow)
      clear hcase
      go_wp2
      go_ret
      exact ⟨ra, rcap, rfl, hpa, hcap, hbase.out, hB⟩
end Go.Proofs.Ytlbbgocggifjaaa
