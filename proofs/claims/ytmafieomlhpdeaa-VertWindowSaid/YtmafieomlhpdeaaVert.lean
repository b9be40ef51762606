/- The contracts of motions by lines and of their references. Conditions: none beyond what each says. -/
import Derived.Test.YtmafieomlhpdeaaVertP
import Derived.Test.YtmafieomlhpdeaaOrder
namespace Go.Proofs.Ytmafieomlhpdeaa
open Go.RowKit

/-- A motion's value. -/
abbrev movV (r : Mov × Bool) : Value := .tuple #[.agg #[.int .i64 r.1.1, .int .i64 r.1.2.1, .int .i64 r.1.2.2.1, .bool r.1.2.2.2.1, .int .i64 r.1.2.2.2.2], .bool r.2]
attribute [go_sem] movV
theorem movV_eq (a b c : Int) (j : Bool) (t : Int) (ok : Bool) : movV ((a, b, c, j, t), ok) = .tuple #[.agg #[.int .i64 a, .int .i64 b, .int .i64 c, .bool j, .int .i64 t], .bool ok] := rfl
def lineP (L : List ByteArray) (pl pc n : Int) (up : Bool) : Int × Bool :=
  if n < 0 ∨ plcB L pl pc = false then (0, false) else if up = true then (pl - n, decide (n ≤ pl)) else (pl + min n L.length, decide (n < L.length - pl))
theorem lineP_no {L : List ByteArray} {pl pc n : Int} {up : Bool} (h : n < 0 ∨ plcB L pl pc = false) : lineP L pl pc n up = (0, false) := by rw [lineP, if_pos h]
theorem lineP_up {L : List ByteArray} {pl pc n : Int} (h : ¬ (n < 0 ∨ plcB L pl pc = false)) : lineP L pl pc n true = (pl - n, decide (n ≤ pl)) := by rw [lineP, if_neg h, if_pos rfl]
theorem lineP_down {L : List ByteArray} {pl pc n : Int} (h : ¬ (n < 0 ∨ plcB L pl pc = false)) : lineP L pl pc n false = (pl + min n L.length, decide (n < L.length - pl)) := by rw [lineP, if_neg h, if_neg (by decide)]
theorem ret_ib {k : IntKind} {a c : Int} {b d : Bool} (h : a = c) (h' : b = d) : Ending.returned (.tuple #[.int k a, .bool b]) = Ending.returned (.tuple #[.int k c, .bool d]) := by rw [h, h']

theorem lineP_yes {L : List ByteArray} {pl pc n t : Int} {up : Bool} (h : plcB L pl pc = true ∧ 0 ≤ n ∧ vertI L pl n up = true) (ht : vertT pl n up = t) : lineP L pl pc n up = (t, true) := by
  obtain ⟨h1, h2, h3⟩ := h
  have q := plcB_spec h1
  rw [lineP, if_neg (by rw [h1]; simp; omega)]
  subst ht
  cases up <;> simp [vertI, vertT] at * <;> omega
theorem lineP_out {L : List ByteArray} {pl pc n : Int} {up : Bool} (h : ¬ (plcB L pl pc = true ∧ 0 ≤ n ∧ vertI L pl n up = true)) : ∃ t, lineP L pl pc n up = (t, false) := by
  unfold lineP
  by_cases hn : n < 0 ∨ plcB L pl pc = false
  · rw [if_pos hn]; exact ⟨_, rfl⟩
  · rw [if_neg hn]
    have h3 : ¬ vertI L pl n up = true := fun e => h ⟨by cases hp : plcB L pl pc <;> simp_all, by omega, e⟩
    cases up <;> simp [vertI] at * <;> exact Int.not_lt.1 (by omega)
set_option maxHeartbeats 1000000 in
theorem vline_any (a : Option Addr) (cap : Nat) (L : List ByteArray) (pl pc n : Int) (up : Bool) (w : World) (hL : LinesAt w a L) (hn2 : n ≤ 9223372036854775807) :
    Calls Try.prog 77 #[.slice a L.length cap, .agg #[.int .i64 pl, .int .i64 pc], .int .i64 n, .bool up] w fun e w' =>
      e = .returned (.tuple #[.int .i64 (lineP L pl pc n up).1, .bool (lineP L pl pc n up).2]) ∧ Below w.heap.size w w' := by
  have hn := hL.2.1
  by_cases h0 : n < 0
  · have hy := Lib.hid (lineP_no (L := L) (pl := pl) (pc := pc) (up := up) (.inl h0))
    go_enter Try.func77, Try.ntmps77
    go_wp2
    go_ret2
    exact ⟨ret_ib (by rw [hy.out]) (by rw [hy.out]), by (repeat (first | exact Below.refl _ _ | refine Below.alloc ?_ (by first | exact Nat.le_refl _ | (simp; done) | (simp; omega)) _ | refine below_ovr_of ?_ | refine drew_below ?_ _ | refine Below.drew ?_ | refine Below.setCell ?_ (by first | exact Nat.le_refl _ | (simp; done) | (simp; omega)) _ | assumption))⟩
  · cases hp : plcB L pl pc with
    | false =>
      have hy := Lib.hid (lineP_no (L := L) (pl := pl) (pc := pc) (n := n) (up := up) (.inr hp))
      go_enter Try.func77, Try.ntmps77
      go_wp2_with (go_at_call 55; refine (place_any _ _ L _ _ _ (by (repeat (first | assumption | refine LinesAt.ovr ?_ _ | refine LinesAt.alloc ?_ _ | refine LinesAt.drewN ?_ _ | refine LinesAt.drew ?_)))).mono ?_; rintro e w1 ⟨rfl, hbl⟩; obtain ⟨x, rfl⟩ := ovr_of_below hbl; clear hbl)
      go_ret2
      exact ⟨ret_ib (by rw [hy.out]) (by rw [hy.out]), by (repeat (first | exact Below.refl _ _ | refine Below.alloc ?_ (by first | exact Nat.le_refl _ | (simp; done) | (simp; omega)) _ | refine below_ovr_of ?_ | refine drew_below ?_ _ | refine Below.drew ?_ | refine Below.setCell ?_ (by first | exact Nat.le_refl _ | (simp; done) | (simp; omega)) _ | assumption))⟩
    | true =>
      obtain ⟨p1, p2, p3, p4⟩ := plcB_spec hp
      have hno : ¬ (n < 0 ∨ plcB L pl pc = false) := by rw [hp]; simp; omega
      cases up with
      | true =>
        have hy := Lib.hid (lineP_up hno)
        clear hno
        go_enter Try.func77, Try.ntmps77
        go_wp2_with (go_at_call 55; refine (place_any _ _ L _ _ _ (by (repeat (first | assumption | refine LinesAt.ovr ?_ _ | refine LinesAt.alloc ?_ _ | refine LinesAt.drewN ?_ _ | refine LinesAt.drew ?_)))).mono ?_; rintro e w1 ⟨rfl, hbl⟩; obtain ⟨x, rfl⟩ := ovr_of_below hbl; clear hbl)
        go_quiet (fail)
        go_wp2
        go_ret2
        exact ⟨ret_ib (by rw [hy.out]) (by rw [hy.out]), by (repeat (first | exact Below.refl _ _ | refine Below.alloc ?_ (by first | exact Nat.le_refl _ | (simp; done) | (simp; omega)) _ | refine below_ovr_of ?_ | refine drew_below ?_ _ | refine Below.drew ?_ | refine Below.setCell ?_ (by first | exact Nat.le_refl _ | (simp; done) | (simp; omega)) _ | assumption))⟩
      | false =>
        have hy := Lib.hid (lineP_down hno)
        clear hno
        rcases (by omega : n ≤ (L.length : Int) ∨ (L.length : Int) < n) with h1 | h1
        all_goals (
          go_enter Try.func77, Try.ntmps77
          go_wp2_with (go_at_call 55; refine (place_any _ _ L _ _ _ (by (repeat (first | assumption | refine LinesAt.ovr ?_ _ | refine LinesAt.alloc ?_ _ | refine LinesAt.drewN ?_ _ | refine LinesAt.drew ?_)))).mono ?_; rintro e w1 ⟨rfl, hbl⟩; obtain ⟨x, rfl⟩ := ovr_of_below hbl; clear hbl)
          go_quiet (fail)
          go_wp2
          go_ret2
          exact ⟨ret_ib (by rw [hy.out]; dsimp only; omega) (by rw [hy.out]), by (repeat (first | exact Below.refl _ _ | refine Below.alloc ?_ (by first | exact Nat.le_refl _ | (simp; done) | (simp; omega)) _ | refine below_ovr_of ?_ | refine drew_below ?_ _ | refine Below.drew ?_ | refine Below.setCell ?_ (by first | exact Nat.le_refl _ | (simp; done) | (simp; omega)) _ | assumption))⟩)
end Go.Proofs.Ytmafieomlhpdeaa
