/- The contracts of area.Of and of its reference, by the ways of a motion. Conditions: none beyond what it says. -/
import Derived.Test.YtmafieomlhpdeaaArea3
namespace Go.Proofs.Ytmafieomlhpdeaa
open Go.RowKit

set_option maxHeartbeats 1000000 in
theorem areaOf_w0l (a : Option Addr) (cap : Nat) (L : List ByteArray) (pl pc ml mc : Int) (jump : Bool) (want : Int) (fl fc tl : Int) (w : World) (hL : LinesAt w a L) (h1 : plcB L pl pc = true) (h2 : plcB L ml mc = true)
    (ho : ordB pl pc ml mc = (fl, fc, tl, 0)) (q1 : plcB L fl fc = true) (q2 : plcB L tl 0 = true) (hlt : fl < tl) (hf : fc ≤ fsI L fl) :
    Calls Try.prog 66 #[.slice a L.length cap, .agg #[.int .i64 pl, .int .i64 pc], .agg #[.int .i64 ml, .int .i64 mc, .int .i64 0, .bool jump, .int .i64 want]] w fun e w' =>
      e = .returned (.tuple #[.agg #[.int .i64 (areaO L fl fc tl 0 0).1.1, .int .i64 (areaO L fl fc tl 0 0).1.2.1, .int .i64 (areaO L fl fc tl 0 0).1.2.2.1, .int .i64 (areaO L fl fc tl 0 0).1.2.2.2.1, .int .i64 (areaO L fl fc tl 0 0).1.2.2.2.2], .bool (areaO L fl fc tl 0 0).2]) ∧ Below w.heap.size w w' := by
  have _u : _ ∧ _ ∧ _ := ⟨h1, q1, q2⟩
  clear _u
  have hn := hL.2.1
  obtain ⟨f1, f2, f3, f4⟩ := plcB_spec q1
  obtain ⟨t1, t2, t3, t4⟩ := plcB_spec q2
  have hsp := hL.split
  rcases hsp with hnil | ⟨b, off, rfl, hb, hpos, hcell, hsz⟩
  · rw [hnil] at f2; simp at f2; omega
  have HC := Lib.hid hcell
  have HS := Lib.hid hsz
  clear hcell hsz
  have hc := HC.out fl.toNat (by omega)
  have hcs := HS.out fl.toNat (by omega)
  have hd := HC.out (tl.toNat - 1) (by omega)
  have hds := HS.out (tl.toNat - 1) (by omega)
  obtain ⟨s, hs'⟩ : ∃ s, L.getD fl.toNat .empty = s := ⟨_, rfl⟩
  obtain ⟨u, hu'⟩ : ∃ u, L.getD (tl.toNat - 1) .empty = u := ⟨_, rfl⟩
  have hfs : fsI L fl = (firstL s.data.toList : Int) := by unfold fsI; rw [hs']
  have hz0 : szI L (tl - 1) = (u.size : Int) := by unfold szI; rw [show (tl - 1).toNat = tl.toNat - 1 from by omega, hu']
  rw [hs'] at hc hcs f4
  rw [hu'] at hd hds
  clear hs' hu'
  have i1 : 1 ≤ tl := by omega
  have i2 : tl - 1 < (L.length : Int) := by omega
  have i3 : 0 ≤ tl - 1 := by omega
  rw [hfs] at hf
  have HY := Lib.hid (areaO_0l (L := L) (fl := fl) (fc := fc) (tl := tl) (tc := 0) ⟨hlt, rfl⟩ (by rw [hfs]; exact hf))
  clear hfs hz0
  go_enter Try.func66, Try.ntmps66
  go_wp2_with fail
  go_at_call 55; refine (place_any _ _ L _ _ _ (by (repeat (first | assumption | refine LinesAt.ovr ?_ _ | refine LinesAt.alloc ?_ _ | refine LinesAt.drewN ?_ _ | refine LinesAt.drew ?_)))).mono ?_; rintro e w1 ⟨rfl, hbl⟩; obtain ⟨x, rfl⟩ := ovr_of_below hbl; clear hbl
  go_wp2_with fail
  go_at_call 55; refine (place_any _ _ L _ _ _ (by (repeat (first | assumption | refine LinesAt.ovr ?_ _ | refine LinesAt.alloc ?_ _ | refine LinesAt.drewN ?_ _ | refine LinesAt.drew ?_)))).mono ?_; rintro e w1 ⟨rfl, hbl⟩; obtain ⟨x, rfl⟩ := ovr_of_below hbl; clear hbl
  go_wp2_with (go_at_call 70; refine (order_any _ _ _ _ _).mono ?_; rintro e w1 ⟨rfl, hbl⟩; obtain ⟨x, rfl⟩ := ovr_of_below hbl; clear hbl)
  (refine wp_region_ovr (by kernel_rfl) (by kernel_rfl) ?_; (repeat (go_big_quiet_step (first | (go_at_call 76; exact quiet_same (first_any _ _ (by omega)))))); refine wpQuiet_nil ?_; rintro _ ⟨zq, rfl⟩)
  go_wp2_with (go_at_call 67; refine (whole_any _ _ _).mono ?_; rintro e w1 ⟨rfl, hbl⟩; obtain ⟨x, rfl⟩ := ovr_of_below hbl; clear hbl)
  rw [HY.out]
  refine bodyPost_ret (v := .tuple #[.agg #[.int .i64 1, .int .i64 fl, .int .i64 0, .int .i64 (tl - 1), .int .i64 0], .bool true]) (by simp [results, Try.results66, go_sem]) rfl ⟨rfl, by (repeat (first | exact Below.refl _ _ | refine Below.alloc ?_ (by first | exact Nat.le_refl _ | (simp; done) | (simp; omega)) _ | refine below_ovr_of ?_ | refine drew_below ?_ _ | refine Below.drew ?_ | refine Below.setCell ?_ (by first | exact Nat.le_refl _ | (simp; done) | (simp; omega)) _ | assumption))⟩
set_option maxHeartbeats 1000000 in
theorem areaOf_w0c (a : Option Addr) (cap : Nat) (L : List ByteArray) (pl pc ml mc : Int) (jump : Bool) (want : Int) (fl fc tl : Int) (w : World) (hL : LinesAt w a L) (h1 : plcB L pl pc = true) (h2 : plcB L ml mc = true)
    (ho : ordB pl pc ml mc = (fl, fc, tl, 0)) (q1 : plcB L fl fc = true) (q2 : plcB L tl 0 = true) (hlt : fl < tl) (hf : ¬ fc ≤ fsI L fl) :
    Calls Try.prog 66 #[.slice a L.length cap, .agg #[.int .i64 pl, .int .i64 pc], .agg #[.int .i64 ml, .int .i64 mc, .int .i64 0, .bool jump, .int .i64 want]] w fun e w' =>
      e = .returned (.tuple #[.agg #[.int .i64 (areaO L fl fc tl 0 0).1.1, .int .i64 (areaO L fl fc tl 0 0).1.2.1, .int .i64 (areaO L fl fc tl 0 0).1.2.2.1, .int .i64 (areaO L fl fc tl 0 0).1.2.2.2.1, .int .i64 (areaO L fl fc tl 0 0).1.2.2.2.2], .bool (areaO L fl fc tl 0 0).2]) ∧ Below w.heap.size w w' := by
  have _u : _ ∧ _ ∧ _ := ⟨h1, q1, q2⟩
  clear _u
  have hn := hL.2.1
  obtain ⟨f1, f2, f3, f4⟩ := plcB_spec q1
  obtain ⟨t1, t2, t3, t4⟩ := plcB_spec q2
  have hsp := hL.split
  rcases hsp with hnil | ⟨b, off, rfl, hb, hpos, hcell, hsz⟩
  · rw [hnil] at f2; simp at f2; omega
  have HC := Lib.hid hcell
  have HS := Lib.hid hsz
  clear hcell hsz
  have hc := HC.out fl.toNat (by omega)
  have hcs := HS.out fl.toNat (by omega)
  have hd := HC.out (tl.toNat - 1) (by omega)
  have hds := HS.out (tl.toNat - 1) (by omega)
  obtain ⟨s, hs'⟩ : ∃ s, L.getD fl.toNat .empty = s := ⟨_, rfl⟩
  obtain ⟨u, hu'⟩ : ∃ u, L.getD (tl.toNat - 1) .empty = u := ⟨_, rfl⟩
  have hfs : fsI L fl = (firstL s.data.toList : Int) := by unfold fsI; rw [hs']
  have hz0 : szI L (tl - 1) = (u.size : Int) := by unfold szI; rw [show (tl - 1).toNat = tl.toNat - 1 from by omega, hu']
  rw [hs'] at hc hcs f4
  rw [hu'] at hd hds
  clear hs' hu'
  have i1 : 1 ≤ tl := by omega
  have i2 : tl - 1 < (L.length : Int) := by omega
  have i3 : 0 ≤ tl - 1 := by omega
  rw [hfs] at hf
  have hy := areaO_0c (L := L) (fl := fl) (fc := fc) (tl := tl) (tc := 0) ⟨hlt, rfl⟩ (by rw [hfs]; exact hf)
  rw [hz0] at hy
  have HY := Lib.hid hy
  clear hfs hz0 hy
  rcases pos_ways2 fl fc (tl - 1) (u.size : Int) with ⟨E, E2⟩ | ⟨E, hne⟩ | hne
  · subst E
    rw [show (tl - 1).toNat = tl.toNat - 1 from by omega] at hc
    have su : s = u := by have hq := hc.symm.trans hd; simpa using hq
    subst su
    clear hd
    subst E2
    have HR := Lib.hid (someR_eq (tl - 1) (s.size : Int))
    go_enter Try.func66, Try.ntmps66
    go_wp2_with fail
    go_at_call 55; refine (place_any _ _ L _ _ _ (by (repeat (first | assumption | refine LinesAt.ovr ?_ _ | refine LinesAt.alloc ?_ _ | refine LinesAt.drewN ?_ _ | refine LinesAt.drew ?_)))).mono ?_; rintro e w1 ⟨rfl, hbl⟩; obtain ⟨x, rfl⟩ := ovr_of_below hbl; clear hbl
    go_wp2_with fail
    go_at_call 55; refine (place_any _ _ L _ _ _ (by (repeat (first | assumption | refine LinesAt.ovr ?_ _ | refine LinesAt.alloc ?_ _ | refine LinesAt.drewN ?_ _ | refine LinesAt.drew ?_)))).mono ?_; rintro e w1 ⟨rfl, hbl⟩; obtain ⟨x, rfl⟩ := ovr_of_below hbl; clear hbl
    go_wp2_with (go_at_call 70; refine (order_any _ _ _ _ _).mono ?_; rintro e w1 ⟨rfl, hbl⟩; obtain ⟨x, rfl⟩ := ovr_of_below hbl; clear hbl)
    (refine wp_region_ovr (by kernel_rfl) (by kernel_rfl) ?_; (repeat (go_big_quiet_step (first | (go_at_call 76; exact quiet_same (first_any _ _ (by omega)))))); refine wpQuiet_nil ?_; rintro _ ⟨zq, rfl⟩)
    go_wp2
    go_region
    go_wp2
    rw [HY.out, HR.out]
    refine bodyPost_ret (v := .tuple #[.agg #[.int .i64 0, .int .i64 0, .int .i64 0, .int .i64 0, .int .i64 0], .bool false]) (by simp [results, Try.results66, go_sem]) rfl ⟨rfl, by (repeat (first | exact Below.refl _ _ | refine Below.alloc ?_ (by first | exact Nat.le_refl _ | (simp; done) | (simp; omega)) _ | refine below_ovr_of ?_ | refine drew_below ?_ _ | refine Below.drew ?_ | refine Below.setCell ?_ (by first | exact Nat.le_refl _ | (simp; done) | (simp; omega)) _ | assumption))⟩
  · subst E
    rw [show (tl - 1).toNat = tl.toNat - 1 from by omega] at hc
    have su : s = u := by have hq := hc.symm.trans hd; simpa using hq
    subst su
    clear hd
    have HR := Lib.hid (someR_ne2 (a := tl - 1) hne)
    go_enter Try.func66, Try.ntmps66
    go_wp2_with fail
    go_at_call 55; refine (place_any _ _ L _ _ _ (by (repeat (first | assumption | refine LinesAt.ovr ?_ _ | refine LinesAt.alloc ?_ _ | refine LinesAt.drewN ?_ _ | refine LinesAt.drew ?_)))).mono ?_; rintro e w1 ⟨rfl, hbl⟩; obtain ⟨x, rfl⟩ := ovr_of_below hbl; clear hbl
    go_wp2_with fail
    go_at_call 55; refine (place_any _ _ L _ _ _ (by (repeat (first | assumption | refine LinesAt.ovr ?_ _ | refine LinesAt.alloc ?_ _ | refine LinesAt.drewN ?_ _ | refine LinesAt.drew ?_)))).mono ?_; rintro e w1 ⟨rfl, hbl⟩; obtain ⟨x, rfl⟩ := ovr_of_below hbl; clear hbl
    go_wp2_with (go_at_call 70; refine (order_any _ _ _ _ _).mono ?_; rintro e w1 ⟨rfl, hbl⟩; obtain ⟨x, rfl⟩ := ovr_of_below hbl; clear hbl)
    (refine wp_region_ovr (by kernel_rfl) (by kernel_rfl) ?_; (repeat (go_big_quiet_step (first | (go_at_call 76; exact quiet_same (first_any _ _ (by omega)))))); refine wpQuiet_nil ?_; rintro _ ⟨zq, rfl⟩)
    go_wp2
    go_region
    go_wp2
    rw [HY.out, HR.out]
    refine bodyPost_ret (v := .tuple #[.agg #[.int .i64 0, .int .i64 (tl - 1), .int .i64 fc, .int .i64 (tl - 1), .int .i64 (s.size : Int)], .bool true]) (by simp [results, Try.results66, go_sem]) rfl ⟨rfl, by (repeat (first | exact Below.refl _ _ | refine Below.alloc ?_ (by first | exact Nat.le_refl _ | (simp; done) | (simp; omega)) _ | refine below_ovr_of ?_ | refine drew_below ?_ _ | refine Below.drew ?_ | refine Below.setCell ?_ (by first | exact Nat.le_refl _ | (simp; done) | (simp; omega)) _ | assumption))⟩
  · have HR := Lib.hid (someR_ne1 (b := fc) (d := (u.size : Int)) hne)
    go_enter Try.func66, Try.ntmps66
    go_wp2_with fail
    go_at_call 55; refine (place_any _ _ L _ _ _ (by (repeat (first | assumption | refine LinesAt.ovr ?_ _ | refine LinesAt.alloc ?_ _ | refine LinesAt.drewN ?_ _ | refine LinesAt.drew ?_)))).mono ?_; rintro e w1 ⟨rfl, hbl⟩; obtain ⟨x, rfl⟩ := ovr_of_below hbl; clear hbl
    go_wp2_with fail
    go_at_call 55; refine (place_any _ _ L _ _ _ (by (repeat (first | assumption | refine LinesAt.ovr ?_ _ | refine LinesAt.alloc ?_ _ | refine LinesAt.drewN ?_ _ | refine LinesAt.drew ?_)))).mono ?_; rintro e w1 ⟨rfl, hbl⟩; obtain ⟨x, rfl⟩ := ovr_of_below hbl; clear hbl
    go_wp2_with (go_at_call 70; refine (order_any _ _ _ _ _).mono ?_; rintro e w1 ⟨rfl, hbl⟩; obtain ⟨x, rfl⟩ := ovr_of_below hbl; clear hbl)
    (refine wp_region_ovr (by kernel_rfl) (by kernel_rfl) ?_; (repeat (go_big_quiet_step (first | (go_at_call 76; exact quiet_same (first_any _ _ (by omega)))))); refine wpQuiet_nil ?_; rintro _ ⟨zq, rfl⟩)
    go_wp2
    go_region
    go_wp2
    rw [HY.out, HR.out]
    refine bodyPost_ret (v := .tuple #[.agg #[.int .i64 0, .int .i64 fl, .int .i64 fc, .int .i64 (tl - 1), .int .i64 (u.size : Int)], .bool true]) (by simp [results, Try.results66, go_sem]) rfl ⟨rfl, by (repeat (first | exact Below.refl _ _ | refine Below.alloc ?_ (by first | exact Nat.le_refl _ | (simp; done) | (simp; omega)) _ | refine below_ovr_of ?_ | refine drew_below ?_ _ | refine Below.drew ?_ | refine Below.setCell ?_ (by first | exact Nat.le_refl _ | (simp; done) | (simp; omega)) _ | assumption))⟩
end Go.Proofs.Ytmafieomlhpdeaa
