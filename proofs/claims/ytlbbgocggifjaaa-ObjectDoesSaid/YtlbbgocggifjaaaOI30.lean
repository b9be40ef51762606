/- The contracts of wordobj.Runs, of its reference, of the reference's find. Conditions: none beyond what each says. -/
import Derived.Test.YtlbbgocggifjaaaOI26
import Derived.Test.YtlbbgocggifjaaaOI23
import Derived.Test.YtlbbgocggifjaaaOI24
import Derived.Test.YtlbbgocggifjaaaOI27
namespace Go.Proofs.Ytlbbgocggifjaaa
open Go.RowKit Go.Shelf

theorem wruns_any (s : ByteArray) (big : Bool) (w : World) : Calls Try.prog 37 #[.string s, .bool big] w fun e w' =>
    e = .returned (.func (.func 104) #[] #[.pointer (some ⟨w.heap.size, 0, none⟩), .pointer (some ⟨w.heap.size + 1, 0, none⟩)]) ∧ (w.alloc (.cells #[.string s] 9)).alloc (.cells #[.bool big] 4) = w' := by
  go_enter Try.func37, Try.ntmps37
  go_wp2
  go_ret
  exact ⟨rfl, rfl⟩
theorem wruns_stopsK (Kp : World → World → Prop) (Bs Bq : Nat) (s : ByteArray) (big : Bool) (W : World) (hK1 : ∀ X Y, Kp X Y → Y.cell? ⟨Bs, 0, none⟩ = X.cell? ⟨Bs, 0, none⟩) (hK2 : ∀ X Y, Kp X Y → Y.cell? ⟨Bq, 0, none⟩ = X.cell? ⟨Bq, 0, none⟩) (hbs : Bs < W.heap.size) (hbq : Bq < W.heap.size) (hs : s.size ≤ 100000) (hBs : W.cell? ⟨Bs, 0, none⟩ = some (.string s)) (hBq : W.cell? ⟨Bq, 0, none⟩ = some (.bool big)) :
    SeqStopsK Fence.wide 8 Try.prog 104 #[.pointer (some ⟨Bs, 0, none⟩), .pointer (some ⟨Bq, 0, none⟩)] (fun x : Ivl s.size => #[Value.int .i64 (x.1.1 : Int), Value.int .i64 (x.1.2 : Int)]) Kp
      (fun ys => vals ys = runF s big 0 0) (fun pre => vals pre <+: runF s big 0 0) 100000 W := fun l J Jx X hX hJ _ hY h0 =>
  wruns1_in 8 (by omega) l Bs Bq Kp s big hK1 hK2 (by omega) J Jx (fun pre A B h g => hJ pre A B none h g (fun r e => by cases e)) (fun pre x A h hl => hY pre x A h (by omega)) X
    ((hX.cell (p := ⟨Bs, 0, none⟩) hbs).trans hBs) ((hX.cell (p := ⟨Bq, 0, none⟩) hbq).trans hBq) h0
theorem wruns_stops (n₀ Bs Bq : Nat) (s : ByteArray) (big : Bool) (W : World) (hbs : Bs < n₀) (hbq : Bq < n₀) (hn₀ : n₀ ≤ W.heap.size) (hs : s.size ≤ 100000) (hBs : W.cell? ⟨Bs, 0, none⟩ = some (.string s)) (hBq : W.cell? ⟨Bq, 0, none⟩ = some (.bool big)) :
    SeqStopsK Fence.wide 8 Try.prog 104 #[.pointer (some ⟨Bs, 0, none⟩), .pointer (some ⟨Bq, 0, none⟩)] (fun x : Ivl s.size => #[Value.int .i64 (x.1.1 : Int), Value.int .i64 (x.1.2 : Int)]) (Below n₀)
      (fun ys => vals ys = runF s big 0 0) (fun pre => vals pre <+: runF s big 0 0) 100000 W :=
  wruns_stopsK (Below n₀) Bs Bq s big W (fun _ _ h => h.cell (p := ⟨Bs, 0, none⟩) hbs) (fun _ _ h => h.cell (p := ⟨Bq, 0, none⟩) hbq) (by omega) (by omega) hs hBs hBq
set_option maxRecDepth 100000 in
set_option maxHeartbeats 4000000 in
theorem rruns_any (s : ByteArray) (big : Bool) (w : World) (hs : s.size ≤ 100000) : Calls Try.prog 38 #[.string s, .bool big] w fun e w' =>
    ∃ a cap, e = .returned (.slice a (runF s big 0 0).length cap) ∧ PairsAt w' a (runF s big 0 0) ∧ (runF s big 0 0).length ≤ cap ∧ (∀ g, a = some ⟨g, 0, none⟩ → w.heap.size ≤ g) ∧ Below w.heap.size w w' := by
  obtain ⟨i0, hi, hz0, hz1, hz2⟩ := info_parts infoRun
  obtain ⟨R, hR⟩ : ∃ R, runF s big 0 0 = R := ⟨_, rfl⟩
  rw [hR]
  have HR := Lib.hid hR
  clear hR
  go_enter Try.func38, Try.ntmps38
  go_wp2
  go_loopw [5, 6] (fun v i wr => ∃ (k : Nat) (O : List (Nat × Nat)), k ≤ s.size ∧ i = .int .i64 k ∧ wr.ownsRow w.heap.size 54 2 v O.length (cellsV O) ∧ O.length ≤ k ∧ Below w.heap.size w wr ∧
    ((k = 0 ∧ O = []) ∨ ∃ (j : Nat) (pre : List (Nat × Nat)) (fr : Nat), k = j + 1 ∧ O = pre ++ [(fr, k)] ∧ Hid (pre ++ runF s big fr j = R)))
    (fun _ i _ => s.size - (intOf i).toNat)
  case atStart => exact ⟨0, [], Nat.zero_le _, rfl, World.ownsRow_nil _ _ _ _, Nat.le_refl _, Below.refl _ _, .inl ⟨rfl, rfl⟩⟩
  case round =>
    obtain ⟨k, O, hk, rfl, hrow, hO, hB, hcase⟩ := hrel
    by_cases hlt : k < s.size
    · have hltI : (k : Int) < (s.size : Int) := by omega
      rcases hcase with ⟨hk0, rfl⟩ | ⟨j, pre, fr, hkj, rfl, HK⟩
      · have t0 : decide (0 < k) = false := decide_eq_false (by omega)
        have HK2 : Hid (([] : List (Nat × Nat)) ++ runF s big k k = R) := Lib.hid (by rw [hk0, List.nil_append]; exact HR.out)
        have HC := Lib.hid (cellsV_snoc [] (k, k + 1))
        clear hk0
        go_wp2
        go_quiet (fail)
        have hrow1 : (wr.drewN nq).ownsRow w.heap.size 54 2 _ ([] : List (Nat × Nat)).length (cellsV []) := hrow
        go_wp2_with (at_builtin; refine wpList_append_own _ rfl _ _ 32 rfl w.heap.size 54 i0 (.agg #[.int .i64 0, .int .i64 0]) 2 16 Try.underlying32 hi hz0 hz1 hz2 rfl (by decide) _ _ _ rfl (hrow1.alloc _) ⟨wr.heap.size, 0, none⟩ 1 1 [.int .i64 (k : Int), .int .i64 ((k : Int) + 1)] rfl rfl (cell_two_new _ _ _ _) (by intro u hu; simp at hu; rcases hu with rfl | rfl <;> rfl) (by unfold maxLen; omega) (by omega) (by have := hB.size; simp; omega) ?_; intro v' w1 hown' hgrow _)
        have hB1 : Below w.heap.size w w1 := ((drew_below hB nq).alloc hB.size _).grown hgrow (by have := hB.size; simp; omega) (fun r e => (hrow.lt r e).1)
        go_roundw
        case rel => exact ⟨k + 1, [(k, k + 1)], by omega, by go_num, by rw [List.nil_append] at HC; simpa [cellsV] using hown', by simp, hB1, .inr ⟨k, [], k, rfl, rfl, HK2⟩⟩
        case measure => simp [intOf]; omega
      · have t0 : decide (0 < k) = true := decide_eq_true (by omega)
        have ej : (k : Int) - 1 = (j : Int) := by omega
        have hj : j < s.size := by omega
        have hjI : (j : Int) < (s.size : Int) := by omega
        have hj0 : (0 : Int) ≤ (j : Int) := by omega
        have hb := byt_at' s j hj
        have hb1 := byt_at' s k hlt
        have hkj1 : j + 1 < s.size := by omega
        have hpl : (pre ++ [(fr, k)]).length = pre.length + 1 := by simp
        by_cases h2 : clsB s big (j + 1) = clsB s big j
        · have t1 : (ofC (s[k].toNat : Int) big == ofC (s[j].toNat : Int) big) = true := by rw [beq_iff_eq, ← hb, ← hb1, hkj]; exact h2
          have HK2 : Hid (pre ++ runF s big fr k = R) := Lib.hid (by rw [hkj, ← runF_on hkj1 h2]; exact HK.out)
          rw [hpl] at hrow hO
          obtain ⟨g, cap, hve⟩ := ownsRow_succ hrow
          subst hve
          have hcell := World.ownsRow.cells hrow (g := g) rfl (pre.length * 2 + 1) _ (by rw [cellsV_snoc, List.getElem?_append_right (by rw [cellsV_len]; omega), cellsV_len, show pre.length * 2 + 1 - pre.length * 2 = 1 by omega]; rfl)
          rw [addr_add] at hcell
          have hfr := World.ownsRow.frozenAt hrow (pre.length * 2 + 1)
          obtain ⟨hst, hgs⟩ := World.ownsRow.stored hrow (pre.length * 2 + 1) (.int .i64 ((k + 1 : Nat) : Int))
          rw [cellsV_set] at hst
          have hgw := (hrow.lt g rfl).1
          have HST := Lib.hid hst
          have ep : ((pre.length : Int) + 1) - 1 = (pre.length : Int) := by omega
          have hp0 : (0 : Int) ≤ (pre.length : Int) := by omega
          have hp1 : (pre.length : Int) < (pre.length : Int) + 1 := by omega
          clear HK h2 hb hb1 hpl hkj hkj1 hst hgs
          go_wp2
          go_quiet ((go_at_call 101; exact Calls.quiet_of_same (rof_same _ _ _)))
          go_wp2
          go_roundw
          case rel => exact ⟨k + 1, pre ++ [(fr, k + 1)], by omega, by go_num, by rw [show ((k : Int) + 1) = ((k + 1 : Nat) : Int) by omega, List.length_append]; exact HST.out, by simp; omega, drew_below (hB.setCell (p := ⟨g, pre.length * 2 + 1, none⟩) hgw _) nq, .inr ⟨k, pre, fr, rfl, rfl, HK2⟩⟩
          case measure => simp [intOf]; omega
        · have t1 : (ofC (s[k].toNat : Int) big == ofC (s[j].toNat : Int) big) = false := by rw [beq_eq_false_iff_ne, ← hb, ← hb1, hkj]; exact h2
          have HK2 : Hid ((pre ++ [(fr, k)]) ++ runF s big k k = R) := Lib.hid (by rw [← HK.out, runF_cut hj (fun hc => h2 hc.2), ← hkj]; simp)
          have HC := Lib.hid (cellsV_snoc (pre ++ [(fr, k)]) (k, k + 1))
          rw [hpl] at hrow hO
          clear HK h2 hb hb1 hpl hkj hkj1
          go_wp2
          go_quiet ((go_at_call 101; exact Calls.quiet_of_same (rof_same _ _ _)))
          have hrow1 : (wr.drewN nq).ownsRow w.heap.size 54 2 _ (pre.length + 1) (cellsV (pre ++ [(fr, k)])) := hrow
          go_wp2_with (at_builtin; refine wpList_append_own _ rfl _ _ 32 rfl w.heap.size 54 i0 (.agg #[.int .i64 0, .int .i64 0]) 2 16 Try.underlying32 hi hz0 hz1 hz2 rfl (by decide) _ _ _ rfl (hrow1.alloc _) ⟨wr.heap.size, 0, none⟩ 1 1 [.int .i64 (k : Int), .int .i64 ((k : Int) + 1)] rfl rfl (cell_two_new _ _ _ _) (by intro u hu; simp at hu; rcases hu with rfl | rfl <;> rfl) (by unfold maxLen; omega) (by omega) (by have := hB.size; simp; omega) ?_; intro v' w1 hown' hgrow _)
          have hB1 : Below w.heap.size w w1 := ((drew_below hB nq).alloc hB.size _).grown hgrow (by have := hB.size; simp; omega) (fun r e => (hrow.lt r e).1)
          go_roundw
          case rel => exact ⟨k + 1, (pre ++ [(fr, k)]) ++ [(k, k + 1)], by omega, by go_num, by rw [HC.out]; simpa using hown', by simp; omega, hB1, .inr ⟨k, pre ++ [(fr, k)], k, rfl, rfl, HK2⟩⟩
          case measure => simp [intOf]; omega
    · have e : O = R := by
        rcases hcase with ⟨hk0, rfl⟩ | ⟨j, pre, fr, hkj, rfl, HK⟩
        · have := HR.out; rw [runF_end (by omega)] at this; exact this
        · have := HK.out
          rw [runF_cut (by omega) (fun hc => by omega), runF_end (by omega), ← hkj] at this
          exact this
      subst e
      obtain ⟨a, cap, hve, hpa, hcap⟩ := pairs_of_owns_cap hrow
      subst hve
      have hbase := Lib.hid (tri_base hrow)
      clear hcase
      go_wp2
      go_ret
      exact ⟨a, cap, rfl, hpa, hcap, hbase.out, hB⟩

end Go.Proofs.Ytlbbgocggifjaaa
