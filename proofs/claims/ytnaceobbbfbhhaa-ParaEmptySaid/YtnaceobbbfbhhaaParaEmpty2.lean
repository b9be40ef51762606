/- The walk of the law ParaEmpty. Conditions: none beyond what it says. -/
import Derived.Test.YtnaceobbbfbhhaaParaLaws
import Derived.Test.YtnaceobbbfbhhaaParaEmptyP
namespace Go.Proofs.Ytnaceobbbfbhhaa
open Go.RowKit

set_option maxRecDepth 100000 in
set_option maxHeartbeats 8000000 in
theorem paraEmpty_e_noMov (a : Option Addr) (cap : Nat) (L : List ByteArray) (x : Int) (W : World) (hL : LinesAt W a L) (hli : textB L = true) (hx0 : 0 ≤ x) (hx1 : x ≤ 255) (l k : Nat) (hat : x % (L.length : Int) = l) (hl : l < L.length) (hk : L.length - 1 = k) (i c : Nat) (h1 : paraP L l 0 1 false true = (((i : Int), (c : Int), 0, true, -1), true)) (h2 : lessB l 0 i c = true) (h3 : i < L.length) (h4 : emp L i = true) (g0 : l = 0) (g1 : paraP L l 0 1 false false = noMov) :
    Calls Try.prog 15 #[.slice a L.length cap, .int .u8 x] W fun e W' => e = .returned (.bool true) ∧ Below W.heap.size W W' := by
  have _u := hl
  clear _u
  have hn := hL.2.1
  obtain ⟨h0, hn4, htot, _⟩ := text_spec hli
  have ek : (L.length : Int) - 1 = (k : Int) := by omega
  have hkI : (k : Int) < (L.length : Int) := by omega
  have hk0 : (0 : Int) ≤ (k : Int) := by omega
  have hl0 : (l : Int) = 0 := by omega
  have G1 : Hid (paraP L 0 0 1 false false = ((0, 0, 0, false, 0), false)) := Lib.hid (by have q := g1; rw [hl0] at q; exact q)
  rw [hl0] at h1 h2 hat
  clear g1 g0
  have H1 := Lib.hid h1
  have H2 := Lib.hid h2
  obtain ⟨bb, off, s, rfl, hbb, hcell, hw⟩ := emp_facts hL h3
  rcases hw with ⟨_, rfl⟩ | ⟨hw, _, _⟩
  rotate_left
  · rw [h4] at hw; cases hw
  have hiI : (i : Int) < (L.length : Int) := by omega
  have hi0 : (0 : Int) ≤ (i : Int) := by omega
  clear h1 h2 h3 h4
  go_enter Try.func15, Try.ntmps15
  go_wp2_with (first | (go_at_call 50; refine (paraNext_any _ _ L _ _ _ _ _ (by (repeat (first | assumption | refine LinesAt.ovr ?_ _ | refine LinesAt.alloc ?_ _ | refine LinesAt.drewN ?_ _ | refine LinesAt.drew ?_))) (by omega)).mono ?_; rw [H1.out]; rintro e w1 ⟨rfl, hbl⟩; obtain ⟨x1, rfl⟩ := ovr_of_below hbl; clear hbl) | (go_at_call 53; refine (paraBack_any _ _ L _ _ _ _ (by (repeat (first | assumption | refine LinesAt.ovr ?_ _ | refine LinesAt.alloc ?_ _ | refine LinesAt.drewN ?_ _ | refine LinesAt.drew ?_))) (by omega)).mono ?_; rw [G1.out]; rintro e w1 ⟨rfl, hbl⟩; obtain ⟨x2, rfl⟩ := ovr_of_below hbl; clear hbl) | (go_at_call 49; refine (known10_any _).mono ?_; rintro e w1 ⟨rfl, hbl⟩; obtain ⟨x, rfl⟩ := ovr_of_below hbl; clear hbl) | (go_at_call 35; refine (text_any _ _ L _ (by (repeat (first | assumption | refine LinesAt.ovr ?_ _ | refine LinesAt.alloc ?_ _ | refine LinesAt.drewN ?_ _ | refine LinesAt.drew ?_)))).mono ?_; rintro e w1 ⟨rfl, rfl⟩))
  (refine wp_region_ovr (by kernel_rfl) (by kernel_rfl) ?_; (repeat (go_big_quiet_step (fail))); refine wpQuiet_nil ?_; rintro _ ⟨zq, rfl⟩)
  go_wp2_with (first | (go_at_call 50; refine (paraNext_any _ _ L _ _ _ _ _ (by (repeat (first | assumption | refine LinesAt.ovr ?_ _ | refine LinesAt.alloc ?_ _ | refine LinesAt.drewN ?_ _ | refine LinesAt.drew ?_))) (by omega)).mono ?_; rw [H1.out]; rintro e w1 ⟨rfl, hbl⟩; obtain ⟨x1, rfl⟩ := ovr_of_below hbl; clear hbl) | (go_at_call 53; refine (paraBack_any _ _ L _ _ _ _ (by (repeat (first | assumption | refine LinesAt.ovr ?_ _ | refine LinesAt.alloc ?_ _ | refine LinesAt.drewN ?_ _ | refine LinesAt.drew ?_))) (by omega)).mono ?_; rw [G1.out]; rintro e w1 ⟨rfl, hbl⟩; obtain ⟨x2, rfl⟩ := ovr_of_below hbl; clear hbl) | (go_at_call 49; refine (known10_any _).mono ?_; rintro e w1 ⟨rfl, hbl⟩; obtain ⟨x, rfl⟩ := ovr_of_below hbl; clear hbl) | (go_at_call 35; refine (text_any _ _ L _ (by (repeat (first | assumption | refine LinesAt.ovr ?_ _ | refine LinesAt.alloc ?_ _ | refine LinesAt.drewN ?_ _ | refine LinesAt.drew ?_)))).mono ?_; rintro e w1 ⟨rfl, rfl⟩))
  go_at_call 58
  refine (rless_at _ _ _ _ _ H2).mono ?_
  rintro e w1 ⟨rfl, hbl⟩
  obtain ⟨x3, rfl⟩ := ovr_of_below hbl
  clear hbl
  go_wp2_with fail
  go_ret
  exact ⟨by simp, by (repeat (first | with_reducible exact Below.refl _ _ | (with_reducible refine Below.setCell ?_ ?_ _; rotate_left; · (first | exact Nat.le_refl _ | assumption | omega | (simp; done) | (simp; omega))) | (with_reducible refine Below.alloc ?_ ?_ _; rotate_left; · (first | exact Nat.le_refl _ | assumption | omega | (simp; done) | (simp; omega))) | with_reducible refine below_ovr_of ?_ | with_reducible refine drew_below ?_ _ | with_reducible refine Below.drew ?_ | with_reducible assumption))⟩
set_option maxRecDepth 100000 in
set_option maxHeartbeats 8000000 in
theorem paraEmpty_e_e (a : Option Addr) (cap : Nat) (L : List ByteArray) (x : Int) (W : World) (hL : LinesAt W a L) (hli : textB L = true) (hx0 : 0 ≤ x) (hx1 : x ≤ 255) (l k : Nat) (hat : x % (L.length : Int) = l) (hl : l < L.length) (hk : L.length - 1 = k) (i c : Nat) (h1 : paraP L l 0 1 false true = (((i : Int), (c : Int), 0, true, -1), true)) (h2 : lessB l 0 i c = true) (h3 : i < L.length) (h4 : emp L i = true) (g0 : l ≠ 0) (j d : Nat) (g1 : paraP L l 0 1 false false = (((j : Int), (d : Int), 0, true, -1), true)) (g2 : lessB j d l 0 = true) (g3 : j < L.length) (g4 : emp L j = true) :
    Calls Try.prog 15 #[.slice a L.length cap, .int .u8 x] W fun e W' => e = .returned (.bool true) ∧ Below W.heap.size W W' := by
  have _u := hl
  clear _u
  have hn := hL.2.1
  obtain ⟨h0, hn4, htot, _⟩ := text_spec hli
  have ek : (L.length : Int) - 1 = (k : Int) := by omega
  have hkI : (k : Int) < (L.length : Int) := by omega
  have hk0 : (0 : Int) ≤ (k : Int) := by omega
  have H1 := Lib.hid h1
  have H2 := Lib.hid h2
  obtain ⟨bb, off, s, rfl, hbb, hcell, hw⟩ := emp_facts hL h3
  rcases hw with ⟨_, rfl⟩ | ⟨hw, _, _⟩
  rotate_left
  · rw [h4] at hw; cases hw
  have hiI : (i : Int) < (L.length : Int) := by omega
  have hi0 : (0 : Int) ≤ (i : Int) := by omega
  clear h1 h2 h3 h4
  have hl0 : ((l : Int) == 0) = false := beq_eq_false_iff_ne.2 (by omega)
  have G1 := Lib.hid g1
  have G2 := Lib.hid g2
  obtain ⟨b2, off2, s2, e2, hb2, hcellj, hw⟩ := emp_facts hL g3
  cases e2
  rcases hw with ⟨_, rfl⟩ | ⟨hw, _, _⟩
  rotate_left
  · rw [g4] at hw; cases hw
  have hjI : (j : Int) < (L.length : Int) := by omega
  have hj0 : (0 : Int) ≤ (j : Int) := by omega
  clear g1 g2 g3 g4 g0
  go_enter Try.func15, Try.ntmps15
  go_wp2_with (first | (go_at_call 50; refine (paraNext_any _ _ L _ _ _ _ _ (by (repeat (first | assumption | refine LinesAt.ovr ?_ _ | refine LinesAt.alloc ?_ _ | refine LinesAt.drewN ?_ _ | refine LinesAt.drew ?_))) (by omega)).mono ?_; rw [H1.out]; rintro e w1 ⟨rfl, hbl⟩; obtain ⟨x1, rfl⟩ := ovr_of_below hbl; clear hbl) | (go_at_call 53; refine (paraBack_any _ _ L _ _ _ _ (by (repeat (first | assumption | refine LinesAt.ovr ?_ _ | refine LinesAt.alloc ?_ _ | refine LinesAt.drewN ?_ _ | refine LinesAt.drew ?_))) (by omega)).mono ?_; rw [G1.out]; rintro e w1 ⟨rfl, hbl⟩; obtain ⟨x2, rfl⟩ := ovr_of_below hbl; clear hbl) | (go_at_call 49; refine (known10_any _).mono ?_; rintro e w1 ⟨rfl, hbl⟩; obtain ⟨x, rfl⟩ := ovr_of_below hbl; clear hbl) | (go_at_call 35; refine (text_any _ _ L _ (by (repeat (first | assumption | refine LinesAt.ovr ?_ _ | refine LinesAt.alloc ?_ _ | refine LinesAt.drewN ?_ _ | refine LinesAt.drew ?_)))).mono ?_; rintro e w1 ⟨rfl, rfl⟩))
  (refine wp_region_ovr (by kernel_rfl) (by kernel_rfl) ?_; (repeat (go_big_quiet_step (fail))); refine wpQuiet_nil ?_; rintro _ ⟨zq, rfl⟩)
  go_wp2_with (first | (go_at_call 50; refine (paraNext_any _ _ L _ _ _ _ _ (by (repeat (first | assumption | refine LinesAt.ovr ?_ _ | refine LinesAt.alloc ?_ _ | refine LinesAt.drewN ?_ _ | refine LinesAt.drew ?_))) (by omega)).mono ?_; rw [H1.out]; rintro e w1 ⟨rfl, hbl⟩; obtain ⟨x1, rfl⟩ := ovr_of_below hbl; clear hbl) | (go_at_call 53; refine (paraBack_any _ _ L _ _ _ _ (by (repeat (first | assumption | refine LinesAt.ovr ?_ _ | refine LinesAt.alloc ?_ _ | refine LinesAt.drewN ?_ _ | refine LinesAt.drew ?_))) (by omega)).mono ?_; rw [G1.out]; rintro e w1 ⟨rfl, hbl⟩; obtain ⟨x2, rfl⟩ := ovr_of_below hbl; clear hbl) | (go_at_call 49; refine (known10_any _).mono ?_; rintro e w1 ⟨rfl, hbl⟩; obtain ⟨x, rfl⟩ := ovr_of_below hbl; clear hbl) | (go_at_call 35; refine (text_any _ _ L _ (by (repeat (first | assumption | refine LinesAt.ovr ?_ _ | refine LinesAt.alloc ?_ _ | refine LinesAt.drewN ?_ _ | refine LinesAt.drew ?_)))).mono ?_; rintro e w1 ⟨rfl, rfl⟩))
  go_at_call 58
  refine (rless_at _ _ _ _ _ H2).mono ?_
  rintro e w1 ⟨rfl, hbl⟩
  obtain ⟨x3, rfl⟩ := ovr_of_below hbl
  clear hbl
  go_wp2_with fail
  go_at_call 58
  refine (rless_at _ _ _ _ _ G2).mono ?_
  rintro e w1 ⟨rfl, hbl⟩
  obtain ⟨x4, rfl⟩ := ovr_of_below hbl
  clear hbl
  go_wp2_with fail
  go_ret
  exact ⟨by simp, by (repeat (first | with_reducible exact Below.refl _ _ | (with_reducible refine Below.setCell ?_ ?_ _; rotate_left; · (first | exact Nat.le_refl _ | assumption | omega | (simp; done) | (simp; omega))) | (with_reducible refine Below.alloc ?_ ?_ _; rotate_left; · (first | exact Nat.le_refl _ | assumption | omega | (simp; done) | (simp; omega))) | with_reducible refine below_ovr_of ?_ | with_reducible refine drew_below ?_ _ | with_reducible refine Below.drew ?_ | with_reducible assumption))⟩
set_option maxRecDepth 100000 in
set_option maxHeartbeats 8000000 in
theorem paraEmpty_e_z (a : Option Addr) (cap : Nat) (L : List ByteArray) (x : Int) (W : World) (hL : LinesAt W a L) (hli : textB L = true) (hx0 : 0 ≤ x) (hx1 : x ≤ 255) (l k : Nat) (hat : x % (L.length : Int) = l) (hl : l < L.length) (hk : L.length - 1 = k) (i c : Nat) (h1 : paraP L l 0 1 false true = (((i : Int), (c : Int), 0, true, -1), true)) (h2 : lessB l 0 i c = true) (h3 : i < L.length) (h4 : emp L i = true) (g0 : l ≠ 0) (j d : Nat) (g1 : paraP L l 0 1 false false = (((j : Int), (d : Int), 0, true, -1), true)) (g2 : lessB j d l 0 = true) (g3 : j < L.length) (g4 : emp L j = false ∧ j = 0 ∧ d = 0) :
    Calls Try.prog 15 #[.slice a L.length cap, .int .u8 x] W fun e W' => e = .returned (.bool true) ∧ Below W.heap.size W W' := by
  have _u := hl
  clear _u
  have hn := hL.2.1
  obtain ⟨h0, hn4, htot, _⟩ := text_spec hli
  have ek : (L.length : Int) - 1 = (k : Int) := by omega
  have hkI : (k : Int) < (L.length : Int) := by omega
  have hk0 : (0 : Int) ≤ (k : Int) := by omega
  have H1 := Lib.hid h1
  have H2 := Lib.hid h2
  obtain ⟨bb, off, s, rfl, hbb, hcell, hw⟩ := emp_facts hL h3
  rcases hw with ⟨_, rfl⟩ | ⟨hw, _, _⟩
  rotate_left
  · rw [h4] at hw; cases hw
  have hiI : (i : Int) < (L.length : Int) := by omega
  have hi0 : (0 : Int) ≤ (i : Int) := by omega
  clear h1 h2 h3 h4
  obtain ⟨g4, rfl, rfl⟩ := g4
  have hl0 : ((l : Int) == 0) = false := beq_eq_false_iff_ne.2 (by omega)
  rw [show ((0 : Nat) : Int) = 0 from rfl] at g1 g2
  have G1 := Lib.hid g1
  have G2 := Lib.hid g2
  obtain ⟨b2, off2, s2, e2, hb2, hcellj, hw⟩ := emp_facts hL g3
  cases e2
  rcases hw with ⟨hw, _⟩ | ⟨_, hsj, _⟩
  · rw [g4] at hw; cases hw
  rw [Nat.add_zero] at hcellj
  have h0I : (0 : Int) < (L.length : Int) := by omega
  clear g1 g2 g3 g4 g0
  go_enter Try.func15, Try.ntmps15
  go_wp2_with (first | (go_at_call 50; refine (paraNext_any _ _ L _ _ _ _ _ (by (repeat (first | assumption | refine LinesAt.ovr ?_ _ | refine LinesAt.alloc ?_ _ | refine LinesAt.drewN ?_ _ | refine LinesAt.drew ?_))) (by omega)).mono ?_; rw [H1.out]; rintro e w1 ⟨rfl, hbl⟩; obtain ⟨x1, rfl⟩ := ovr_of_below hbl; clear hbl) | (go_at_call 53; refine (paraBack_any _ _ L _ _ _ _ (by (repeat (first | assumption | refine LinesAt.ovr ?_ _ | refine LinesAt.alloc ?_ _ | refine LinesAt.drewN ?_ _ | refine LinesAt.drew ?_))) (by omega)).mono ?_; rw [G1.out]; rintro e w1 ⟨rfl, hbl⟩; obtain ⟨x2, rfl⟩ := ovr_of_below hbl; clear hbl) | (go_at_call 49; refine (known10_any _).mono ?_; rintro e w1 ⟨rfl, hbl⟩; obtain ⟨x, rfl⟩ := ovr_of_below hbl; clear hbl) | (go_at_call 35; refine (text_any _ _ L _ (by (repeat (first | assumption | refine LinesAt.ovr ?_ _ | refine LinesAt.alloc ?_ _ | refine LinesAt.drewN ?_ _ | refine LinesAt.drew ?_)))).mono ?_; rintro e w1 ⟨rfl, rfl⟩))
  (refine wp_region_ovr (by kernel_rfl) (by kernel_rfl) ?_; (repeat (go_big_quiet_step (fail))); refine wpQuiet_nil ?_; rintro _ ⟨zq, rfl⟩)
  go_wp2_with (first | (go_at_call 50; refine (paraNext_any _ _ L _ _ _ _ _ (by (repeat (first | assumption | refine LinesAt.ovr ?_ _ | refine LinesAt.alloc ?_ _ | refine LinesAt.drewN ?_ _ | refine LinesAt.drew ?_))) (by omega)).mono ?_; rw [H1.out]; rintro e w1 ⟨rfl, hbl⟩; obtain ⟨x1, rfl⟩ := ovr_of_below hbl; clear hbl) | (go_at_call 53; refine (paraBack_any _ _ L _ _ _ _ (by (repeat (first | assumption | refine LinesAt.ovr ?_ _ | refine LinesAt.alloc ?_ _ | refine LinesAt.drewN ?_ _ | refine LinesAt.drew ?_))) (by omega)).mono ?_; rw [G1.out]; rintro e w1 ⟨rfl, hbl⟩; obtain ⟨x2, rfl⟩ := ovr_of_below hbl; clear hbl) | (go_at_call 49; refine (known10_any _).mono ?_; rintro e w1 ⟨rfl, hbl⟩; obtain ⟨x, rfl⟩ := ovr_of_below hbl; clear hbl) | (go_at_call 35; refine (text_any _ _ L _ (by (repeat (first | assumption | refine LinesAt.ovr ?_ _ | refine LinesAt.alloc ?_ _ | refine LinesAt.drewN ?_ _ | refine LinesAt.drew ?_)))).mono ?_; rintro e w1 ⟨rfl, rfl⟩))
  go_at_call 58
  refine (rless_at _ _ _ _ _ H2).mono ?_
  rintro e w1 ⟨rfl, hbl⟩
  obtain ⟨x3, rfl⟩ := ovr_of_below hbl
  clear hbl
  go_wp2_with fail
  go_at_call 58
  refine (rless_at _ _ _ _ _ G2).mono ?_
  rintro e w1 ⟨rfl, hbl⟩
  obtain ⟨x4, rfl⟩ := ovr_of_below hbl
  clear hbl
  go_wp2_with fail
  go_ret
  exact ⟨by simp, by (repeat (first | with_reducible exact Below.refl _ _ | (with_reducible refine Below.setCell ?_ ?_ _; rotate_left; · (first | exact Nat.le_refl _ | assumption | omega | (simp; done) | (simp; omega))) | (with_reducible refine Below.alloc ?_ ?_ _; rotate_left; · (first | exact Nat.le_refl _ | assumption | omega | (simp; done) | (simp; omega))) | with_reducible refine below_ovr_of ?_ | with_reducible refine drew_below ?_ _ | with_reducible refine Below.drew ?_ | with_reducible assumption))⟩
end Go.Proofs.Ytnaceobbbfbhhaa
