/- The walk of the law VertWant. Conditions: none beyond what it says. -/
import Derived.Test.YtmafieomlhpdeaaVertLaws
import Derived.Deep.RegionHeld3
namespace Go.Proofs.Ytmafieomlhpdeaa
open Go.RowKit

theorem vert_down {L : List ByteArray} {pl pc k want : Int} (h : plcB L pl pc = true) (h1 : 1 ≤ k) (h2 : k < L.length - pl) (w0 : 0 ≤ want) (w1 : want ≤ 255) :
    vertP L pl pc k want false = ((pl + k, min want (max (szI L (pl + k) - 1) 0), 2, false, want), true) := by
  rw [vertP_yes (t := pl + k) ⟨h, h1, by simp [vertI]; omega⟩ (by simp [vertT]), clampW, show min (max want 0) 1073741824 = want from by omega]
theorem vert_up {L : List ByteArray} {pl c k want : Int} (h : plcB L (pl + k) c = true) (h0 : 0 ≤ pl) (h1 : 1 ≤ k) (w0 : 0 ≤ want) (w1 : want ≤ 255) :
    vertP L (pl + k) c k want true = ((pl, min want (max (szI L pl - 1) 0), 2, false, want), true) := by
  rw [vertP_yes (t := pl) ⟨h, h1, by simp [vertI]; try omega⟩ (by simp [vertT]; try omega), clampW, show min (max want 0) 1073741824 = want from by omega]
theorem vert_far {L : List ByteArray} {pl pc k want : Int} (h2 : (L.length : Int) - pl ≤ k) : vertP L pl pc k want false = ((0, 0, 0, false, 0), false) := by
  rw [vertP_no (fun e => by have := e.2.2; simp [vertI] at this; omega)]; rfl

set_option maxHeartbeats 4000000 in
theorem vertWant_walk (a : Option Addr) (cap : Nat) (L : List ByteArray) (sa sb want n : Int) (W : World) (hL : LinesAt W a L) (hsa : 0 ≤ sa ∧ sa ≤ 65535) (hsb : 0 ≤ sb ∧ sb ≤ 65535) (hw : 0 ≤ want ∧ want ≤ 255) (hnn : 0 ≤ n ∧ n ≤ 255) :
    Calls Try.prog 10 #[.slice a L.length cap, .int .u16 sa, .int .u16 sb, .int .u8 want, .int .u8 n] W fun e W' => e = .returned (.bool true) ∧ Below W.heap.size W W' := by
  obtain ⟨n0, n1⟩ := hnn
  obtain ⟨w0, w1⟩ := hw
  cases hli : textB L with
  | false =>
    go_enter Try.func10, Try.ntmps10
    go_wp2_with (first | (go_at_call 15; refine (known9_any _).mono ?_; rintro e w1 ⟨rfl, hbl⟩; obtain ⟨x, rfl⟩ := ovr_of_below hbl; clear hbl) | (go_at_call 16; refine (text_any _ _ L _ (by (repeat (first | assumption | refine LinesAt.ovr ?_ _ | refine LinesAt.alloc ?_ _ | refine LinesAt.drewN ?_ _ | refine LinesAt.drew ?_)))).mono ?_; rintro e w1 ⟨rfl, rfl⟩))
    go_ret
    exact ⟨rfl, by (repeat (first | exact Below.refl _ _ | refine Below.alloc ?_ (by first | exact Nat.le_refl _ | (simp; done) | (simp; omega)) _ | refine below_ovr_of ?_ | refine drew_below ?_ _ | refine Below.drew ?_ | refine Below.setCell ?_ (by first | exact Nat.le_refl _ | (simp; done) | (simp; omega)) _ | assumption))⟩
  | true =>
    obtain ⟨h0, hn, htot, _⟩ := text_spec hli
    obtain ⟨pl, pc, hsl, hsc, hp⟩ := seat_facts (L := L) (x := sa) (y := sb) h0 hsa.1
    have HSLpl := Lib.hid hsl
    have HSCpl := Lib.hid hsc
    clear hsl hsc
    obtain ⟨p1, p2, p3, p4⟩ := plcB_spec hp
    obtain ⟨k, hk⟩ : ∃ k : Int, n % 10 + 1 = k := ⟨_, rfl⟩
    have k1 : 1 ≤ k := by omega
    have k2 : k ≤ 10 := by omega
    by_cases hf : (L.length : Int) - pl ≤ k
    · have HF := Lib.hid (vert_far (pc := pc) (want := want) hf)
      clear p4
      go_enter Try.func10, Try.ntmps10
      go_wp2_with (first | (go_at_call 15; refine (known9_any _).mono ?_; rintro e w1 ⟨rfl, hbl⟩; obtain ⟨x, rfl⟩ := ovr_of_below hbl; clear hbl) | (go_at_call 16; refine (text_any _ _ L _ (by (repeat (first | assumption | refine LinesAt.ovr ?_ _ | refine LinesAt.alloc ?_ _ | refine LinesAt.drewN ?_ _ | refine LinesAt.drew ?_)))).mono ?_; rintro e w1 ⟨rfl, rfl⟩) | (go_at_call 17; refine (seat_at _ _ L _ _ _ (by (repeat (first | assumption | refine LinesAt.ovr ?_ _ | refine LinesAt.alloc ?_ _ | refine LinesAt.drewN ?_ _ | refine LinesAt.drew ?_))) h0 hsa hsb HSLpl HSCpl).mono ?_; rintro e w1 ⟨rfl, hbl⟩; obtain ⟨x, rfl⟩ := ovr_of_below hbl; clear hbl) | (go_at_call 30; refine (vdown_any _ _ L _ _ _ _ _ (by (repeat (first | assumption | refine LinesAt.ovr ?_ _ | refine LinesAt.alloc ?_ _ | refine LinesAt.drewN ?_ _ | refine LinesAt.drew ?_))) (by omega)).mono ?_; rw [HF.out]; rintro e w1 ⟨rfl, hbl⟩; obtain ⟨x, rfl⟩ := ovr_of_below hbl; clear hbl))
      go_ret
      exact ⟨rfl, by (repeat (first | with_reducible exact Below.refl _ _ | (with_reducible refine Below.setCell ?_ ?_ _; rotate_left; · (first | exact Nat.le_refl _ | assumption | omega | (simp; done) | (simp; omega))) | (with_reducible refine Below.alloc ?_ ?_ _; rotate_left; · (first | exact Nat.le_refl _ | assumption | omega | (simp; done) | (simp; omega))) | with_reducible refine below_ovr_of ?_ | with_reducible refine drew_below ?_ _ | with_reducible refine Below.drew ?_ | with_reducible assumption))⟩
    · have hf' : k < (L.length : Int) - pl := by omega
      clear hf
      have hz0 : 0 ≤ szI L (pl + k) := by unfold szI; omega
      obtain ⟨mc, hmc⟩ : ∃ mc, min want (max (szI L (pl + k) - 1) 0) = mc := ⟨_, rfl⟩
      have hd := vert_down hp k1 hf' w0 w1
      rw [hmc] at hd
      have hp2 : plcB L (pl + k) mc = true := plcB_mk (by omega) (by omega) (by omega) (by omega)
      have hu := vert_up hp2 p1 k1 w0 w1
      obtain ⟨b, off, s, rfl, hb, hcell, hs, HS⟩ := line_facts hL p1 p2
      rw [szI_eq HS.out] at hu
      have HD := Lib.hid hd
      clear hd hz0 hmc p4
      rcases (by omega : (s.size = 0 ∧ want ≤ 0) ∨ (s.size = 0 ∧ 1 ≤ want) ∨ (1 ≤ s.size ∧ want ≤ (s.size : Int) - 1) ∨ (1 ≤ s.size ∧ (s.size : Int) - 1 < want)) with ⟨c1, c2⟩ | ⟨c1, c2⟩ | ⟨c1, c2⟩ | ⟨c1, c2⟩
      all_goals (
        have hu' := hu
        first
          | rw [show min want (max ((s.size : Int) - 1) 0) = want from by omega] at hu'
          | rw [show min want (max ((s.size : Int) - 1) 0) = 0 from by omega] at hu'
          | rw [show min want (max ((s.size : Int) - 1) 0) = (s.size : Int) - 1 from by omega] at hu'
        have HU := Lib.hid hu'
        clear hu hu'
        go_enter Try.func10, Try.ntmps10
        go_wp2_with (first | (go_at_call 15; refine (known9_any _).mono ?_; rintro e w1 ⟨rfl, hbl⟩; obtain ⟨x, rfl⟩ := ovr_of_below hbl; clear hbl) | (go_at_call 16; refine (text_any _ _ L _ (by (repeat (first | assumption | refine LinesAt.ovr ?_ _ | refine LinesAt.alloc ?_ _ | refine LinesAt.drewN ?_ _ | refine LinesAt.drew ?_)))).mono ?_; rintro e w1 ⟨rfl, rfl⟩) | (go_at_call 17; refine (seat_at _ _ L _ _ _ (by (repeat (first | assumption | refine LinesAt.ovr ?_ _ | refine LinesAt.alloc ?_ _ | refine LinesAt.drewN ?_ _ | refine LinesAt.drew ?_))) h0 hsa hsb HSLpl HSCpl).mono ?_; rintro e w1 ⟨rfl, hbl⟩; obtain ⟨x, rfl⟩ := ovr_of_below hbl; clear hbl) | (go_at_call 30; refine (vdown_any _ _ L _ _ _ _ _ (by (repeat (first | assumption | refine LinesAt.ovr ?_ _ | refine LinesAt.alloc ?_ _ | refine LinesAt.drewN ?_ _ | refine LinesAt.drew ?_))) (by omega)).mono ?_; rw [HD.out]; rintro e w1 ⟨rfl, hbl⟩; obtain ⟨x, rfl⟩ := ovr_of_below hbl; clear hbl) | (go_at_call 31; refine (vup_any _ _ L _ _ _ _ _ (by (repeat (first | assumption | refine LinesAt.ovr ?_ _ | refine LinesAt.alloc ?_ _ | refine LinesAt.drewN ?_ _ | refine LinesAt.drew ?_))) (by omega)).mono ?_; rw [HU.out]; rintro e w1 ⟨rfl, hbl⟩; obtain ⟨x, rfl⟩ := ovr_of_below hbl; clear hbl))
        go_quiet (fail)
        all_goals (
          go_wp2
          go_ret
          exact ⟨ret_bool (by simp; try omega), by (repeat (first | with_reducible exact Below.refl _ _ | (with_reducible refine Below.setCell ?_ ?_ _; rotate_left; · (first | exact Nat.le_refl _ | assumption | omega | (simp; done) | (simp; omega))) | (with_reducible refine Below.alloc ?_ ?_ _; rotate_left; · (first | exact Nat.le_refl _ | assumption | omega | (simp; done) | (simp; omega))) | with_reducible refine below_ovr_of ?_ | with_reducible refine drew_below ?_ _ | with_reducible refine Below.drew ?_ | with_reducible assumption))⟩))
end Go.Proofs.Ytmafieomlhpdeaa
