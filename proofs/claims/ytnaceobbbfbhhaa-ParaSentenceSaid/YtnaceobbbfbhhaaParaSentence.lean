/- The walk of the law ParaSentence. Conditions: none beyond what it says. -/
import Derived.Test.YtnaceobbbfbhhaaPObjLaws
import Derived.Test.YtnaceobbbfbhhaaParaSentP
namespace Go.Proofs.Ytnaceobbbfbhhaa
open Go.RowKit

set_option maxRecDepth 100000 in
set_option maxHeartbeats 8000000 in
theorem paraSentence_walk (a : Option Addr) (cap : Nat) (L : List ByteArray) (sa sb : Int) (W : World) (hL : LinesAt W a L) (hsa : 0 ≤ sa ∧ sa ≤ 65535) (hsb : 0 ≤ sb ∧ sb ≤ 65535) :
    Calls Try.prog 20 #[.slice a L.length cap, .int .u16 sa, .int .u16 sb] W fun e W' => e = .returned (.bool true) ∧ Below W.heap.size W W' := by
  have hn := hL.2.1
  cases hli : textB L with
  | false =>
    go_enter Try.func20, Try.ntmps20
    go_wp2_with (first | (go_at_call 63; refine (known18_any _).mono ?_; rintro e w1 ⟨rfl, hbl⟩; obtain ⟨x, rfl⟩ := ovr_of_below hbl; clear hbl) | (go_at_call 35; refine (text_any _ _ L _ (by (repeat (first | assumption | refine LinesAt.ovr ?_ _ | refine LinesAt.alloc ?_ _ | refine LinesAt.drewN ?_ _ | refine LinesAt.drew ?_)))).mono ?_; rintro e w1 ⟨rfl, rfl⟩))
    go_ret
    exact ⟨rfl, by (repeat (first | exact Below.refl _ _ | refine Below.alloc ?_ (by first | exact Nat.le_refl _ | (simp; done) | (simp; omega)) _ | refine below_ovr_of ?_ | refine drew_below ?_ _ | refine Below.drew ?_ | refine Below.setCell ?_ (by first | exact Nat.le_refl _ | (simp; done) | (simp; omega)) _ | assumption))⟩
  | true =>
    obtain ⟨h0, hn4, htot, _⟩ := text_spec hli
    obtain ⟨pl, pc, hsl, hsc, hp⟩ := seat_facts (L := L) (x := sa) (y := sb) h0 hsa.1
    have HSLpl := Lib.hid hsl
    have HSCpl := Lib.hid hsc
    clear hsl hsc
    obtain ⟨p1, p2, p3, p4⟩ := plcB_spec hp
    obtain ⟨l, rfl⟩ := Int.eq_ofNat_of_zero_le p1
    obtain ⟨c, rfl⟩ := Int.eq_ofNat_of_zero_le p3
    rcases sent_ways hp with ⟨h1, h2⟩ | ⟨fl, fc, tl, tc, h1, h3, h4, h2 | ⟨y, x, h2, h5, h6, h7, h8⟩⟩
    · have H1 : Hid (sObjP L l c true = ((0, 0, 0, 0, 0), false)) := Lib.hid h1
      have H2 : Hid (sObjP L l c false = ((0, 0, 0, 0, 0), false)) := Lib.hid h2
      clear h1 h2 hp p1 p2 p3 p4
      go_enter Try.func20, Try.ntmps20
      go_wp2_with (first | (go_at_call 63; refine (known18_any _).mono ?_; rintro e w1 ⟨rfl, hbl⟩; obtain ⟨x0, rfl⟩ := ovr_of_below hbl; clear hbl) | (go_at_call 35; refine (text_any _ _ L _ (by (repeat (first | assumption | refine LinesAt.ovr ?_ _ | refine LinesAt.alloc ?_ _ | refine LinesAt.drewN ?_ _ | refine LinesAt.drew ?_)))).mono ?_; rintro e w1 ⟨rfl, rfl⟩) | (go_at_call 38; refine (seat_at _ _ L _ _ _ (by (repeat (first | assumption | refine LinesAt.ovr ?_ _ | refine LinesAt.alloc ?_ _ | refine LinesAt.drewN ?_ _ | refine LinesAt.drew ?_))) h0 hsa hsb HSLpl HSCpl).mono ?_; rintro e w1 ⟨rfl, hbl⟩; obtain ⟨x1, rfl⟩ := ovr_of_below hbl; clear hbl))
      go_at_call 71
      refine (psobj_any _ _ L _ _ _ _ (by (repeat (first | assumption | refine LinesAt.ovr ?_ _ | refine LinesAt.alloc ?_ _ | refine LinesAt.drewN ?_ _ | refine LinesAt.drew ?_))) (by omega)).mono ?_
      rw [H1.out]
      rintro e w1 ⟨rfl, hbl⟩
      obtain ⟨x2, rfl⟩ := ovr_of_below hbl
      clear hbl
      go_wp2_with fail
      go_at_call 71
      refine (psobj_any _ _ L _ _ _ _ (by (repeat (first | assumption | refine LinesAt.ovr ?_ _ | refine LinesAt.alloc ?_ _ | refine LinesAt.drewN ?_ _ | refine LinesAt.drew ?_))) (by omega)).mono ?_
      rw [H2.out]
      rintro e w1 ⟨rfl, hbl⟩
      obtain ⟨x3, rfl⟩ := ovr_of_below hbl
      clear hbl
      go_wp2_with fail
      go_wp2
      go_ret
      exact ⟨by simp, by (repeat (first | with_reducible exact Below.refl _ _ | (with_reducible refine Below.setCell ?_ ?_ _; rotate_left; · (first | exact Nat.le_refl _ | assumption | omega | (simp; done) | (simp; omega))) | (with_reducible refine Below.alloc ?_ ?_ _; rotate_left; · (first | exact Nat.le_refl _ | assumption | omega | (simp; done) | (simp; omega))) | with_reducible refine below_ovr_of ?_ | with_reducible refine drew_below ?_ _ | with_reducible refine Below.drew ?_ | with_reducible assumption))⟩
    · have H1 := Lib.hid h1
      have H2 : Hid (sObjP L l c false = ((0, 0, 0, 0, 0), false)) := Lib.hid h2
      have H3 := Lib.hid h3
      have H4 := Lib.hid h4
      clear h1 h2 h3 h4 hp p1 p2 p3 p4
      go_enter Try.func20, Try.ntmps20
      go_wp2_with (first | (go_at_call 63; refine (known18_any _).mono ?_; rintro e w1 ⟨rfl, hbl⟩; obtain ⟨x0, rfl⟩ := ovr_of_below hbl; clear hbl) | (go_at_call 35; refine (text_any _ _ L _ (by (repeat (first | assumption | refine LinesAt.ovr ?_ _ | refine LinesAt.alloc ?_ _ | refine LinesAt.drewN ?_ _ | refine LinesAt.drew ?_)))).mono ?_; rintro e w1 ⟨rfl, rfl⟩) | (go_at_call 38; refine (seat_at _ _ L _ _ _ (by (repeat (first | assumption | refine LinesAt.ovr ?_ _ | refine LinesAt.alloc ?_ _ | refine LinesAt.drewN ?_ _ | refine LinesAt.drew ?_))) h0 hsa hsb HSLpl HSCpl).mono ?_; rintro e w1 ⟨rfl, hbl⟩; obtain ⟨x1, rfl⟩ := ovr_of_below hbl; clear hbl))
      go_at_call 71
      refine (psobj_any _ _ L _ _ _ _ (by (repeat (first | assumption | refine LinesAt.ovr ?_ _ | refine LinesAt.alloc ?_ _ | refine LinesAt.drewN ?_ _ | refine LinesAt.drew ?_))) (by omega)).mono ?_
      rw [H1.out]
      rintro e w1 ⟨rfl, hbl⟩
      obtain ⟨x2, rfl⟩ := ovr_of_below hbl
      clear hbl
      go_wp2_with fail
      go_at_call 71
      refine (psobj_any _ _ L _ _ _ _ (by (repeat (first | assumption | refine LinesAt.ovr ?_ _ | refine LinesAt.alloc ?_ _ | refine LinesAt.drewN ?_ _ | refine LinesAt.drew ?_))) (by omega)).mono ?_
      rw [H2.out]
      rintro e w1 ⟨rfl, hbl⟩
      obtain ⟨x3, rfl⟩ := ovr_of_below hbl
      clear hbl
      go_wp2_with fail
      go_at_call 58
      refine (rless_at _ _ _ _ _ H3).mono ?_
      rintro e w1 ⟨rfl, hbl⟩
      obtain ⟨x4, rfl⟩ := ovr_of_below hbl
      clear hbl
      go_wp2_with fail
      go_at_call 58
      refine (rless_at _ _ _ _ _ H4).mono ?_
      rintro e w1 ⟨rfl, hbl⟩
      obtain ⟨x5, rfl⟩ := ovr_of_below hbl
      clear hbl
      go_wp2_with fail
      go_ret
      exact ⟨by simp, by (repeat (first | with_reducible exact Below.refl _ _ | (with_reducible refine Below.setCell ?_ ?_ _; rotate_left; · (first | exact Nat.le_refl _ | assumption | omega | (simp; done) | (simp; omega))) | (with_reducible refine Below.alloc ?_ ?_ _; rotate_left; · (first | exact Nat.le_refl _ | assumption | omega | (simp; done) | (simp; omega))) | with_reducible refine below_ovr_of ?_ | with_reducible refine drew_below ?_ _ | with_reducible refine Below.drew ?_ | with_reducible assumption))⟩
    · obtain ⟨m, hm⟩ : ∃ m, x + 1 = m := ⟨_, rfl⟩
      rw [hm] at h2 h5
      have H1 := Lib.hid h1
      have H2 := Lib.hid h2
      have H3 := Lib.hid h3
      have H4 := Lib.hid h4
      have H5 := Lib.hid h5
      obtain ⟨bb, off, s, rfl, hbb, hcell, hss, HS⟩ := line_facts' hL h6
      rw [HS.out] at h7 h8
      obtain ⟨cv, hcv⟩ : ∃ cv, ofC (s[x].toNat : Int) true = cv := ⟨_, rfl⟩
      have hby := byt_at' s x h7
      rw [hby, hcv] at h8
      have HCV := Lib.hid hcv
      have hcb : (cv == 0) = false := beq_eq_false_iff_ne.2 h8
      have hyI : (y : Int) < (L.length : Int) := by omega
      have hy0 : (0 : Int) ≤ (y : Int) := by omega
      have hxI : (x : Int) < (s.size : Int) := by omega
      have hx0 : (0 : Int) ≤ (x : Int) := by omega
      have hx1 : (0 : Int) < (m : Int) := by omega
      have hx1N : 0 < m := by omega
      have ex1 : (m : Int) - 1 = (x : Int) := by omega
      have ew1 : IntKind.i64.wrap ((m : Int) - 1) = (m : Int) - 1 := IntWalk.i64_in _ (by omega)
      have ew2 : IntKind.i64.wrap (x : Int) = (x : Int) := IntWalk.i64_in _ (by omega)
      clear h1 h2 h3 h4 h5 h6 hp p1 p2 p3 p4 hcv hby hm
      go_enter Try.func20, Try.ntmps20
      go_wp2_with (first | (go_at_call 63; refine (known18_any _).mono ?_; rintro e w1 ⟨rfl, hbl⟩; obtain ⟨x0, rfl⟩ := ovr_of_below hbl; clear hbl) | (go_at_call 35; refine (text_any _ _ L _ (by (repeat (first | assumption | refine LinesAt.ovr ?_ _ | refine LinesAt.alloc ?_ _ | refine LinesAt.drewN ?_ _ | refine LinesAt.drew ?_)))).mono ?_; rintro e w1 ⟨rfl, rfl⟩) | (go_at_call 38; refine (seat_at _ _ L _ _ _ (by (repeat (first | assumption | refine LinesAt.ovr ?_ _ | refine LinesAt.alloc ?_ _ | refine LinesAt.drewN ?_ _ | refine LinesAt.drew ?_))) h0 hsa hsb HSLpl HSCpl).mono ?_; rintro e w1 ⟨rfl, hbl⟩; obtain ⟨x1, rfl⟩ := ovr_of_below hbl; clear hbl))
      go_at_call 71
      refine (psobj_any _ _ L _ _ _ _ (by (repeat (first | assumption | refine LinesAt.ovr ?_ _ | refine LinesAt.alloc ?_ _ | refine LinesAt.drewN ?_ _ | refine LinesAt.drew ?_))) (by omega)).mono ?_
      rw [H1.out]
      rintro e w1 ⟨rfl, hbl⟩
      obtain ⟨x2, rfl⟩ := ovr_of_below hbl
      clear hbl
      go_wp2_with fail
      go_at_call 71
      refine (psobj_any _ _ L _ _ _ _ (by (repeat (first | assumption | refine LinesAt.ovr ?_ _ | refine LinesAt.alloc ?_ _ | refine LinesAt.drewN ?_ _ | refine LinesAt.drew ?_))) (by omega)).mono ?_
      rw [H2.out]
      rintro e w1 ⟨rfl, hbl⟩
      obtain ⟨x3, rfl⟩ := ovr_of_below hbl
      clear hbl
      go_wp2_with fail
      go_at_call 58
      refine (rless_at _ _ _ _ _ H3).mono ?_
      rintro e w1 ⟨rfl, hbl⟩
      obtain ⟨x4, rfl⟩ := ovr_of_below hbl
      clear hbl
      go_wp2_with fail
      go_at_call 58
      refine (rless_at _ _ _ _ _ H4).mono ?_
      rintro e w1 ⟨rfl, hbl⟩
      obtain ⟨x5, rfl⟩ := ovr_of_below hbl
      clear hbl
      go_wp2_with fail
      (refine wp_region_ovr (by kernel_rfl) (by kernel_rfl) ?_; (repeat (go_big_quiet_step ((first | (go_at_call 58; exact quiet_ovr (rless_at _ _ _ _ _ H5)) | (go_at_call 48; exact quiet_same (by have hq := rof_any (s[x].toNat : Int) true; rw [HCV.out] at hq; exact hq _)))))); refine wpQuiet_nil ?_; rintro _ ⟨zq, rfl⟩)
      go_wp2
      go_ret
      exact ⟨by simp [h8], by (repeat (first | with_reducible exact Below.refl _ _ | (with_reducible refine Below.setCell ?_ ?_ _; rotate_left; · (first | exact Nat.le_refl _ | assumption | omega | (simp; done) | (simp; omega))) | (with_reducible refine Below.alloc ?_ ?_ _; rotate_left; · (first | exact Nat.le_refl _ | assumption | omega | (simp; done) | (simp; omega))) | with_reducible refine below_ovr_of ?_ | with_reducible refine drew_below ?_ _ | with_reducible refine Below.drew ?_ | with_reducible assumption))⟩
end Go.Proofs.Ytnaceobbbfbhhaa
