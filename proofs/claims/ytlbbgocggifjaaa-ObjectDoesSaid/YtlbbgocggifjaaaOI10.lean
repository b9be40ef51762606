/- The contract of the next byte's place, forwards. Conditions: none beyond what it says. -/
import Derived.Test.YtlbbgocggifjaaaOI8
namespace Go.Proofs.Ytlbbgocggifjaaa
open Go.RowKit

@[go_sem] theorem setCell_drewN (X : World) (n : Nat) (p : Addr) (v : Value) : (X.drewN n).setCell p v = (X.setCell p v).drewN n := rfl

set_option maxHeartbeats 2000000 in
theorem next_forth (a : Option Addr) (cap : Nat) (L : List ByteArray) (l c : Nat) (w : World) (hL : LinesAt w a L) (hl : l < L.length) (hc : c < (L.getD l .empty).size) :
    Calls Try.prog 114 #[.slice a L.length cap, .agg #[.int .i64 l, .int .i64 c], .bool false] w fun e w' => e = .returned (plcV (nxtP L (idx L l c + 1))) ∧ Below w.heap.size w w' := by
  have hn := hL.2.1
  have hcs : c < 140737488351232 := by
    have := hL.2.2 _ (getD_mem L .empty l hl)
    omega
  obtain ⟨j, hj⟩ : ∃ j, idx L l c + 1 = j := ⟨_, rfl⟩
  rw [hj]
  have HJ : Hid (total (L.take l) + c + 1 = j) := Lib.hid hj
  have HC := Lib.hid hc
  clear hj hc
  go_enter Try.func114, Try.ntmps114
  go_wp2
  go_loopw [7] (fun q wr => q = .bool false ∧ ∃ (l' c' n : Nat), l' < L.length ∧ c' ≤ 140737488351232 ∧ Hid (c' ≤ (L.getD l' .empty).size ∧ total (L.take l') + c' = j) ∧
    wr = ((w.alloc (.cells #[.int .i64 l', .int .i64 c'] 29)).alloc (.cells #[.int .i64 0, .int .i64 0] 29)).drewN n) (fun _ wr => L.length - (intOf ((wr.cell? ⟨w.heap.size, 0, none⟩).getD undef)).toNat)
  case atStart => exact ⟨rfl, l, c + 1, 0, hl, by omega, Lib.hid ⟨by have := HC.out; omega, by have := HJ.out; omega⟩, rfl⟩
  case round =>
    obtain ⟨rfl, l', c', nd, hl', hc2, HH, rfl⟩ := hrel
    obtain ⟨b, off, s, rfl, hb, hcell, hs, HS⟩ := line_facts' hL hl'
    have hlI : (l' : Int) < (L.length : Int) := by omega
    have hl0 : (0 : Int) ≤ (l' : Int) := by omega
    have hcs' : c' ≤ s.size := by have := HH.out.1; rw [HS.out] at this; exact this
    by_cases h0 : c' < s.size
    · have h0I : (c' : Int) < (s.size : Int) := by omega
      have hy : nxtP L j = (((l' : Int), (c' : Int)), true) := by
        have hh := HH.out
        have := idx_lt (L := L) hl' (by rw [HS.out]; exact h0)
        unfold idx at this
        rw [nxtP, if_pos (by omega)]
        exact atPlc_eq hl' (by rw [HS.out]; exact h0) (by unfold idx; omega)
      have HY := Lib.hid hy
      clear hy
      go_wp2
      go_quiet (fail)
      go_wp2
      refine bodyPost_ret (v := plcV (((l' : Int), (c' : Int)), true)) (by simp [results, Try.results114, go_sem]) rfl ⟨by rw [HY.out], by (repeat (first | with_reducible exact Below.refl _ _ | (with_reducible refine Below.setCell ?_ ?_ _; rotate_left; · (first | exact Nat.le_refl _ | assumption | omega | (simp; done) | (simp; omega))) | (with_reducible refine Below.alloc ?_ ?_ _; rotate_left; · (first | exact Nat.le_refl _ | assumption | omega | (simp; done) | (simp; omega))) | with_reducible refine below_ovr_of ?_ | with_reducible refine drew_below ?_ _ | with_reducible refine Below.drew ?_ | with_reducible assumption))⟩
    · have hge : (s.size : Int) ≤ (c' : Int) := by omega
      have HT := Lib.hid (total_snoc L l' hl')
      by_cases h1 : l' + 1 < L.length
      · have h1I : (l' : Int) + 1 < (L.length : Int) := by omega
        go_wp2
        go_quiet (fail)
        go_wp2
        go_roundw
        case rel =>
          refine ⟨rfl, l' + 1, 0, _, h1, by omega, Lib.hid ⟨Nat.zero_le _, ?_⟩, rfl⟩
          have hh := HH.out
          have ht := HT.out
          rw [HS.out] at ht
          omega
        case measure => simp [intOf, go_sem]; omega
      · have h1I : (L.length : Int) ≤ (l' : Int) + 1 := by omega
        have hy : nxtP L j = noPlc := by
          have hh := HH.out
          have ht := HT.out
          rw [HS.out] at ht
          have : total (L.take (l' + 1)) = total L := by rw [List.take_of_length_le (by omega)]
          rw [nxtP, if_neg (by omega)]
        have HY := Lib.hid hy
        clear hy
        go_wp2
        go_quiet (fail)
        go_wp2
        refine bodyPost_ret (v := plcV noPlc) (by simp [results, Try.results114, go_sem, noPlc]) rfl ⟨by rw [HY.out], by (repeat (first | with_reducible exact Below.refl _ _ | (with_reducible refine Below.setCell ?_ ?_ _; rotate_left; · (first | exact Nat.le_refl _ | assumption | omega | (simp; done) | (simp; omega))) | (with_reducible refine Below.alloc ?_ ?_ _; rotate_left; · (first | exact Nat.le_refl _ | assumption | omega | (simp; done) | (simp; omega))) | with_reducible refine below_ovr_of ?_ | with_reducible refine drew_below ?_ _ | with_reducible refine Below.drew ?_ | with_reducible assumption))⟩
end Go.Proofs.Ytlbbgocggifjaaa
