/- The walk of the law CharsColumn. Conditions: none beyond what it says. -/
import Derived.Test.YtmafieomlhpdeaaCharsLaws
namespace Go.Proofs.Ytmafieomlhpdeaa
open Go.RowKit

theorem lastP_1 {L : List ByteArray} {pl pc : Int} {s : ByteArray} (h : plcB L pl pc = true) (hz : szI L pl = (s.size : Int)) : lastP L pl pc 1 = ((pl, max ((s.size : Int) - 1) 0, 1, false, 1073741824), true) := by
  have q := plcB_spec h
  rw [lastP, if_pos ⟨h, by omega, by omega⟩, show pl + 1 - 1 = pl from by omega, hz]

set_option maxHeartbeats 4000000 in
theorem charsColumn_walk (a : Option Addr) (cap : Nat) (L : List ByteArray) (sa sb sn : Int) (W : World) (hL : LinesAt W a L) (hsa : 0 ≤ sa ∧ sa ≤ 65535) (hsb : 0 ≤ sb ∧ sb ≤ 65535) (hsn : 0 ≤ sn ∧ sn ≤ 65535) :
    Calls Try.prog 12 #[.slice a L.length cap, .int .u16 sa, .int .u16 sb, .int .u16 sn] W fun e W' => e = .returned (.bool true) ∧ Below W.heap.size W W' := by
  obtain ⟨n0, n1⟩ := hsn
  cases hli : textB L with
  | false =>
    go_enter Try.func12, Try.ntmps12
    go_wp2_with (first | (go_at_call 23; refine (known7_any _).mono ?_; rintro e w1 ⟨rfl, hbl⟩; obtain ⟨x, rfl⟩ := ovr_of_below hbl; clear hbl) | (go_at_call 16; refine (text_any _ _ L _ (by (repeat (first | assumption | refine LinesAt.ovr ?_ _ | refine LinesAt.alloc ?_ _ | refine LinesAt.drewN ?_ _ | refine LinesAt.drew ?_)))).mono ?_; rintro e w1 ⟨rfl, rfl⟩))
    go_ret
    exact ⟨rfl, by (repeat (first | exact Below.refl _ _ | refine Below.alloc ?_ (by first | exact Nat.le_refl _ | (simp; done) | (simp; omega)) _ | refine below_ovr_of ?_ | refine drew_below ?_ _ | refine Below.drew ?_ | refine Below.setCell ?_ (by first | exact Nat.le_refl _ | (simp; done) | (simp; omega)) _ | assumption))⟩
  | true =>
    obtain ⟨h0, hn, htot, _⟩ := text_spec hli
    obtain ⟨pl, pc, hsl, hsc, hp⟩ := seat_facts (L := L) (x := sa) (y := sb) h0 hsa.1
    have HSLpl := Lib.hid hsl
    have HSCpl := Lib.hid hsc
    clear hsl hsc
    obtain ⟨p1, p2, p3, p4⟩ := plcB_spec hp
    obtain ⟨b, off, s, rfl, hb, hcell, hs, HS⟩ := line_facts hL p1 p2
    have hz := szI_eq HS.out
    have HL1 := Lib.hid (lastP_1 hp hz)
    rcases column_ways L pl pc (sn + 1) _ s hp (by omega) (by omega : min (sn + 1) 1073741824 = sn + 1) hz with ⟨k, k2, HP⟩ | ⟨k, k2, HP⟩ | ⟨k, k2, HP⟩ | ⟨k, k2, HP⟩
    all_goals (
      rw [show sn + 1 - 1 = sn from by omega] at HP
      have HL2 := HL1
      first
        | rw [show max ((s.size : Int) - 1) 0 = 0 from by omega] at HL2
        | rw [show max ((s.size : Int) - 1) 0 = (s.size : Int) - 1 from by omega] at HL2)
    all_goals (
      have k3 : sn ≤ max ((s.size : Int) - 1) 0 ∨ max ((s.size : Int) - 1) 0 < sn := by omega
      clear hz HL1 p4 k3
      first
        | (have k4 : sn ≤ 0 ∧ s.size = 0 := by omega
           obtain ⟨k4, k5⟩ := k4)
        | (have k4 : 1 ≤ sn ∧ s.size = 0 := by omega
           obtain ⟨k4, k5⟩ := k4)
        | (have k4 : sn ≤ (s.size : Int) - 1 := by omega)
        | (have k4 : (s.size : Int) - 1 < sn := by omega)
      clear k2
      go_enter Try.func12, Try.ntmps12
      go_wp2_with (first | (go_at_call 23; refine (known7_any _).mono ?_; rintro e w1 ⟨rfl, hbl⟩; obtain ⟨x, rfl⟩ := ovr_of_below hbl; clear hbl) | (go_at_call 16; refine (text_any _ _ L _ (by (repeat (first | assumption | refine LinesAt.ovr ?_ _ | refine LinesAt.alloc ?_ _ | refine LinesAt.drewN ?_ _ | refine LinesAt.drew ?_)))).mono ?_; rintro e w1 ⟨rfl, rfl⟩) | (go_at_call 17; refine (seat_at _ _ L _ _ _ (by (repeat (first | assumption | refine LinesAt.ovr ?_ _ | refine LinesAt.alloc ?_ _ | refine LinesAt.drewN ?_ _ | refine LinesAt.drew ?_))) h0 hsa hsb HSLpl HSCpl).mono ?_; rintro e w1 ⟨rfl, hbl⟩; obtain ⟨x, rfl⟩ := ovr_of_below hbl; clear hbl) | (go_at_call 37; refine (ccolumn_any _ _ L _ _ _ _ (by (repeat (first | assumption | refine LinesAt.ovr ?_ _ | refine LinesAt.alloc ?_ _ | refine LinesAt.drewN ?_ _ | refine LinesAt.drew ?_))) (by omega)).mono ?_; rw [HP.out]; rintro e w1 ⟨rfl, hbl⟩; obtain ⟨x, rfl⟩ := ovr_of_below hbl; clear hbl) | (go_at_call 38; refine (clast_any _ _ L _ _ _ _ (by (repeat (first | assumption | refine LinesAt.ovr ?_ _ | refine LinesAt.alloc ?_ _ | refine LinesAt.drewN ?_ _ | refine LinesAt.drew ?_))) (by omega)).mono ?_; rw [HL2.out]; rintro e w1 ⟨rfl, hbl⟩; obtain ⟨x, rfl⟩ := ovr_of_below hbl; clear hbl))
      go_ret
      exact ⟨ret_bool (by simp; try omega), by (repeat (first | with_reducible exact Below.refl _ _ | (with_reducible refine Below.setCell ?_ ?_ _; rotate_left; · (first | exact Nat.le_refl _ | assumption | omega | (simp; done) | (simp; omega))) | (with_reducible refine Below.alloc ?_ ?_ _; rotate_left; · (first | exact Nat.le_refl _ | assumption | omega | (simp; done) | (simp; omega))) | with_reducible refine below_ovr_of ?_ | with_reducible refine drew_below ?_ _ | with_reducible refine Below.drew ?_ | with_reducible assumption))⟩)
end Go.Proofs.Ytmafieomlhpdeaa
