/- The contract of the references' next byte's place, backwards. Conditions: none beyond what it says. -/
import Derived.Test.YtlbbgocggifjaaaPair6
namespace Go.Proofs.Ytlbbgocggifjaaa
open Go.RowKit

set_option maxHeartbeats 2000000 in
theorem step_back (a : Option Addr) (cap : Nat) (L : List ByteArray) (l c : Nat) (w : World) (hL : LinesAt w a L) (hl : l < L.length) (hc : c ≤ (L.getD l .empty).size) :
    Calls Try.prog 143 #[.slice a L.length cap, .agg #[.int .i64 l, .int .i64 c], .bool true] w (StepOut w (prvP L (idx L l c))) := by
  have hn := hL.2.1
  have hcs : c ≤ 140737488351232 := by
    have := hL.2.2 _ (getD_mem L .empty l hl)
    omega
  obtain ⟨i, hi⟩ : ∃ i, idx L l c = i := ⟨_, rfl⟩
  rw [hi]
  have HI : Hid (total (L.take l) + c = i) := Lib.hid hi
  have HC := Lib.hid hc
  clear hi hc
  go_enter Try.func143, Try.ntmps143
  go_wp2
  go_loopw [7] (fun q wr => q = .bool false ∧ ∃ (l' nd : Nat) (c' : Int), l' < L.length ∧ -1 ≤ c' ∧ c' ≤ 140737488351232 ∧ Hid (c' < (L.getD l' .empty).size ∧ (total (L.take l') : Int) + c' + 1 = i) ∧
    wr = ((w.alloc (.cells #[.int .i64 l', .int .i64 c'] 29)).alloc (.cells #[.int .i64 0, .int .i64 0] 29)).drewN nd) (fun _ wr => (intOf ((wr.cell? ⟨w.heap.size, 0, none⟩).getD undef)).toNat)
  case atStart => exact ⟨rfl, l, 0, (c : Int) - 1, hl, by omega, by omega, Lib.hid ⟨by have := HC.out; omega, by have := HI.out; omega⟩, rfl⟩
  case round =>
    obtain ⟨rfl, l', nd, c', hl', hc1, hc2, HH, rfl⟩ := hrel
    have hlI : (l' : Int) < (L.length : Int) := by omega
    have hl0 : (0 : Int) ≤ (l' : Int) := by omega
    by_cases h0 : 0 ≤ c'
    · obtain ⟨c', rfl⟩ := Int.eq_ofNat_of_zero_le h0
      have hy : prvP L i = (((l' : Int), (c' : Int)), true) := by
        have hh := HH.out
        rw [prvP, if_neg (by omega)]
        exact atPlc_eq hl' (by omega) (by unfold idx; omega)
      have HY := Lib.hid hy
      obtain ⟨b, off, s, rfl, hb, hcell, hs, HS⟩ := line_facts' hL hl'
      have hlt : (c' : Int) < (s.size : Int) := by have := HH.out.1; rw [HS.out] at this; exact this
      have hneg : decide ((c' : Int) < 0) = false := decide_eq_false (by omega)
      clear hy
      go_wp2
      go_quiet (fail)
      go_wp2
      refine bodyPost_ret (v := plcV (((l' : Int), (c' : Int)), true)) (by simp [results, Try.results143, go_sem]) rfl ⟨l', c', by rw [HY.out], Lib.hid (by rw [HY.out]; intro _; rfl), by (repeat (first | with_reducible exact Below.refl _ _ | (with_reducible refine Below.setCell ?_ ?_ _; rotate_left; · (first | exact Nat.le_refl _ | assumption | omega | (simp; done) | (simp; omega))) | (with_reducible refine Below.alloc ?_ ?_ _; rotate_left; · (first | exact Nat.le_refl _ | assumption | omega | (simp; done) | (simp; omega))) | with_reducible refine below_ovr_of ?_ | with_reducible refine drew_below ?_ _ | with_reducible refine Below.drew ?_ | with_reducible assumption))⟩
    · have hc3 : c' < 0 := by omega
      have hneg : decide (c' < 0) = true := decide_eq_true hc3
      cases l' with
      | zero =>
        have hy : prvP L i = noPlc := by
          have hh := HH.out
          simp [total] at hh
          rw [prvP, if_pos (by omega)]
        have HY := Lib.hid hy
        clear hy
        go_wp2
        go_quiet (fail)
        go_wp2
        refine bodyPost_ret (v := plcV ((-1, c'), false)) (by simp [results, Try.results143, go_sem]) rfl ⟨-1, c', by rw [HY.out]; rfl, Lib.hid (by rw [HY.out]; intro h; cases h), by (repeat (first | with_reducible exact Below.refl _ _ | (with_reducible refine Below.setCell ?_ ?_ _; rotate_left; · (first | exact Nat.le_refl _ | assumption | omega | (simp; done) | (simp; omega))) | (with_reducible refine Below.alloc ?_ ?_ _; rotate_left; · (first | exact Nat.le_refl _ | assumption | omega | (simp; done) | (simp; omega))) | with_reducible refine below_ovr_of ?_ | with_reducible refine drew_below ?_ _ | with_reducible refine Below.drew ?_ | with_reducible assumption))⟩
      | succ m =>
        have hm : m < L.length := by omega
        have hmI : (m : Int) < (L.length : Int) := by omega
        obtain ⟨b, off, s, rfl, hb, hcell, hs, HS⟩ := line_facts' hL hm
        have HT := Lib.hid (total_snoc L m hm)
        have hm1 : ((m + 1 : Nat) : Int) - 1 = (m : Int) := by omega
        have hneg2 : decide ((m : Int) < 0) = false := decide_eq_false (by omega)
        go_wp2
        go_quiet (fail)
        go_wp2
        go_roundw
        case rel =>
          refine ⟨rfl, m, _, (s.size : Int) - 1, hm, by omega, by omega, Lib.hid ⟨by rw [HS.out]; omega, ?_⟩, rfl⟩
          have hh := HH.out
          have ht := HT.out
          rw [HS.out] at ht
          omega
        case measure => simp [intOf, go_sem]
end Go.Proofs.Ytlbbgocggifjaaa
