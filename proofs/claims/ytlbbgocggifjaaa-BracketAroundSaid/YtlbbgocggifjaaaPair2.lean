/- The contracts of the next byte's place. Conditions: none beyond what each says. -/
import Derived.Test.YtlbbgocggifjaaaPair
namespace Go.Proofs.Ytlbbgocggifjaaa
open Go.RowKit

/-- A place, and whether there is one, as a value. -/
abbrev plcV (r : (Int × Int) × Bool) : Value := .tuple #[.agg #[.int .i64 r.1.1, .int .i64 r.1.2], .bool r.2]
attribute [go_sem] plcV
def noPlc : (Int × Int) × Bool := ((0, 0), false)
def atPlc (L : List ByteArray) (j : Nat) : (Int × Int) × Bool := ((((plcOf L j).1 : Int), ((plcOf L j).2 : Int)), true)
def nxtP (L : List ByteArray) (j : Nat) : (Int × Int) × Bool := if j < total L then atPlc L j else noPlc
def prvP (L : List ByteArray) (i : Nat) : (Int × Int) × Bool := if i = 0 then noPlc else atPlc L (i - 1)
theorem atPlc_eq {L : List ByteArray} {j l c : Nat} (h : l < L.length) (h2 : c < (L.getD l .empty).size) (hj : idx L l c = j) : atPlc L j = (((l : Int), (c : Int)), true) := by
  subst hj; rw [atPlc, plcOf_idx h h2]
theorem ret_plc {a b c d : Int} {x y : Bool} (h1 : a = c) (h2 : b = d) (h3 : x = y) : Ending.returned (.tuple #[.agg #[.int .i64 a, .int .i64 b], .bool x]) = Ending.returned (.tuple #[.agg #[.int .i64 c, .int .i64 d], .bool y]) := by rw [h1, h2, h3]

set_option maxHeartbeats 2000000 in
theorem next_back (a : Option Addr) (cap : Nat) (L : List ByteArray) (l c : Nat) (w : World) (hL : LinesAt w a L) (hl : l < L.length) (hc : c ≤ (L.getD l .empty).size) :
    Calls Try.prog 114 #[.slice a L.length cap, .agg #[.int .i64 l, .int .i64 c], .bool true] w fun e w' => e = .returned (plcV (prvP L (idx L l c))) ∧ Below w.heap.size w w' := by
  have hn := hL.2.1
  have hcs : c ≤ 140737488351232 := by
    have := hL.2.2 _ (getD_mem L .empty l hl)
    omega
  obtain ⟨i, hi⟩ : ∃ i, idx L l c = i := ⟨_, rfl⟩
  rw [hi]
  have HI : Hid (total (L.take l) + c = i) := Lib.hid hi
  have HC := Lib.hid hc
  clear hi hc
  go_enter Try.func114, Try.ntmps114
  go_wp2
  go_loopw [7] (fun q wr => q = .bool false ∧ ∃ (l' : Nat) (c' : Int), l' < L.length ∧ -1 ≤ c' ∧ c' ≤ 140737488351232 ∧ Hid (c' < (L.getD l' .empty).size ∧ (total (L.take l') : Int) + c' + 1 = i) ∧
    wr = (w.alloc (.cells #[.int .i64 l', .int .i64 c'] 29)).alloc (.cells #[.int .i64 0, .int .i64 0] 29)) (fun _ wr => (intOf ((wr.cell? ⟨w.heap.size, 0, none⟩).getD undef)).toNat)
  case atStart => exact ⟨rfl, l, (c : Int) - 1, hl, by omega, by omega, Lib.hid ⟨by have := HC.out; omega, by have := HI.out; omega⟩, rfl⟩
  case round =>
    obtain ⟨rfl, l', c', hl', hc1, hc2, HH, rfl⟩ := hrel
    by_cases h0 : 0 ≤ c'
    · obtain ⟨c', rfl⟩ := Int.eq_ofNat_of_zero_le h0
      have hy : prvP L i = (((l' : Int), (c' : Int)), true) := by
        have hh := HH.out
        rw [prvP, if_neg (by omega)]
        exact atPlc_eq hl' (by omega) (by unfold idx; omega)
      have HY := Lib.hid hy
      clear hy
      go_wp2
      refine bodyPost_ret (v := plcV (((l' : Int), (c' : Int)), true)) (by simp [results, Try.results114, go_sem]) rfl ⟨by rw [HY.out], by (repeat (first | with_reducible exact Below.refl _ _ | (with_reducible refine Below.setCell ?_ ?_ _; rotate_left; · (first | exact Nat.le_refl _ | assumption | omega | (simp; done) | (simp; omega))) | (with_reducible refine Below.alloc ?_ ?_ _; rotate_left; · (first | exact Nat.le_refl _ | assumption | omega | (simp; done) | (simp; omega))) | with_reducible refine below_ovr_of ?_ | with_reducible refine drew_below ?_ _ | with_reducible refine Below.drew ?_ | with_reducible assumption))⟩
    · have hc3 : c' < 0 := by omega
      cases l' with
      | zero =>
        have hy : prvP L i = noPlc := by
          have hh := HH.out
          simp [total] at hh
          rw [prvP, if_pos (by omega)]
        have HY := Lib.hid hy
        clear hy
        go_wp2
        refine bodyPost_ret (v := plcV noPlc) (by simp [results, Try.results114, go_sem, noPlc]) rfl ⟨by rw [HY.out], by (repeat (first | with_reducible exact Below.refl _ _ | (with_reducible refine Below.setCell ?_ ?_ _; rotate_left; · (first | exact Nat.le_refl _ | assumption | omega | (simp; done) | (simp; omega))) | (with_reducible refine Below.alloc ?_ ?_ _; rotate_left; · (first | exact Nat.le_refl _ | assumption | omega | (simp; done) | (simp; omega))) | with_reducible refine below_ovr_of ?_ | with_reducible refine drew_below ?_ _ | with_reducible refine Below.drew ?_ | with_reducible assumption))⟩
      | succ m =>
        have hm : m < L.length := by omega
        have hmI : (m : Int) < (L.length : Int) := by omega
        obtain ⟨b, off, s, rfl, hb, hcell, hs, HS⟩ := line_facts' hL hm
        have HT := Lib.hid (total_snoc L m hm)
        have hm1 : ((m + 1 : Nat) : Int) - 1 = (m : Int) := by omega
        go_wp2
        go_roundw
        case rel =>
          refine ⟨rfl, m, (s.size : Int) - 1, hm, by omega, by omega, Lib.hid ⟨by rw [HS.out]; omega, ?_⟩, ?_⟩
          · have hh := HH.out
            have ht := HT.out
            rw [HS.out] at ht
            omega
          · simp
        case measure => simp [intOf, go_sem]
end Go.Proofs.Ytlbbgocggifjaaa
