/- The contracts of Valid, Columns, Text of package span. Conditions: none beyond what each says. -/
import Derived.Test.YtlbbgocggifjaaaSpanP
import Derived.Test.YtlbbgocggifjaaaOrder0
import Derived.Test.YtlbbgocggifjaaaOwn
namespace Go.Proofs.Ytlbbgocggifjaaa
open Go.RowKit

set_option maxHeartbeats 1000000 in
theorem valid_any (a : Option Addr) (cap : Nat) (L : List ByteArray) (k fl fc tl tc : Int) (w : World) (hL : LinesAt w a L) :
    Calls Try.prog 92 #[.slice a L.length cap, .agg #[.int .i64 k, .int .i64 fl, .int .i64 fc, .int .i64 tl, .int .i64 tc]] w fun e w' =>
      e = .returned (.bool (validB L k fl fc tl tc)) ∧ Below w.heap.size w w' := by
  have hn := hL.2.1
  by_cases h1 : fl < 0
  · have hy := Lib.hid (validB_fl (L := L) (k := k) (fc := fc) (tl := tl) (tc := tc) h1)
    go_enter Try.func92, Try.ntmps92
    go_wp2
    go_ret
    exact ⟨ret_bool (by rw [hy.out]), by (repeat (first | exact Below.refl _ _ | refine Below.alloc ?_ (by first | exact Nat.le_refl _ | (simp; done) | (simp; omega)) _ | refine below_ovr_of ?_ | refine drew_below ?_ _ | refine Below.drew ?_ | refine Below.setCell ?_ (by first | exact Nat.le_refl _ | (simp; done) | (simp; omega)) _ | assumption))⟩
  · by_cases h2 : tl < fl
    · have hy := Lib.hid (validB_tl (L := L) (k := k) (fc := fc) (tc := tc) h2)
      go_enter Try.func92, Try.ntmps92
      go_wp2
      all_goals (go_ret; exact ⟨ret_bool (by rw [hy.out]), by (repeat (first | exact Below.refl _ _ | refine Below.alloc ?_ (by first | exact Nat.le_refl _ | (simp; done) | (simp; omega)) _ | refine below_ovr_of ?_ | refine drew_below ?_ _ | refine Below.drew ?_ | refine Below.setCell ?_ (by first | exact Nat.le_refl _ | (simp; done) | (simp; omega)) _ | assumption))⟩)
    · by_cases h3 : (L.length : Int) ≤ tl
      · have hy := Lib.hid (validB_len (L := L) (k := k) (fl := fl) (fc := fc) (tc := tc) h3)
        go_enter Try.func92, Try.ntmps92
        go_wp2
        all_goals (go_ret; exact ⟨ret_bool (by rw [hy.out]), by (repeat (first | exact Below.refl _ _ | refine Below.alloc ?_ (by first | exact Nat.le_refl _ | (simp; done) | (simp; omega)) _ | refine below_ovr_of ?_ | refine drew_below ?_ _ | refine Below.drew ?_ | refine Below.setCell ?_ (by first | exact Nat.le_refl _ | (simp; done) | (simp; omega)) _ | assumption))⟩)
      · by_cases k0 : k = 0
        · subst k0
          have hy := Lib.hid (validB_char (fc := fc) (tc := tc) (by omega : 0 ≤ fl) (by omega : fl ≤ tl) (by omega : tl < (L.length : Int)))
          cases hp1 : plcB L fl fc with
          | false =>
            go_enter Try.func92, Try.ntmps92
            go_wp2_with (go_at_call 109; refine (place_any _ _ L _ _ _ (by (repeat (first | assumption | refine LinesAt.ovr ?_ _ | refine LinesAt.alloc ?_ _ | refine LinesAt.drewN ?_ _ | refine LinesAt.drew ?_)))).mono ?_; rintro e w1 ⟨rfl, hbl⟩; obtain ⟨x, rfl⟩ := ovr_of_below hbl; clear hbl)
            go_ret
            exact ⟨ret_bool (by rw [hy.out, hp1]; rfl), by (repeat (first | exact Below.refl _ _ | refine Below.alloc ?_ (by first | exact Nat.le_refl _ | (simp; done) | (simp; omega)) _ | refine below_ovr_of ?_ | refine drew_below ?_ _ | refine Below.drew ?_ | refine Below.setCell ?_ (by first | exact Nat.le_refl _ | (simp; done) | (simp; omega)) _ | assumption))⟩
          | true =>
            cases hp2 : plcB L tl tc with
            | false =>
              go_enter Try.func92, Try.ntmps92
              go_wp2_with fail
              go_at_call 109; refine (place_any _ _ L _ _ _ (by (repeat (first | assumption | refine LinesAt.ovr ?_ _ | refine LinesAt.alloc ?_ _ | refine LinesAt.drewN ?_ _ | refine LinesAt.drew ?_)))).mono ?_; rintro e w1 ⟨rfl, hbl⟩; obtain ⟨x, rfl⟩ := ovr_of_below hbl; clear hbl
              go_wp2_with fail
              go_at_call 109; refine (place_any _ _ L _ _ _ (by (repeat (first | assumption | refine LinesAt.ovr ?_ _ | refine LinesAt.alloc ?_ _ | refine LinesAt.drewN ?_ _ | refine LinesAt.drew ?_)))).mono ?_; rintro e w1 ⟨rfl, hbl⟩; obtain ⟨x, rfl⟩ := ovr_of_below hbl; clear hbl
              go_wp2_with fail
              go_ret
              exact ⟨ret_bool (by rw [hy.out, hp1, hp2]; rfl), by (repeat (first | exact Below.refl _ _ | refine Below.alloc ?_ (by first | exact Nat.le_refl _ | (simp; done) | (simp; omega)) _ | refine below_ovr_of ?_ | refine drew_below ?_ _ | refine Below.drew ?_ | refine Below.setCell ?_ (by first | exact Nat.le_refl _ | (simp; done) | (simp; omega)) _ | assumption))⟩
            | true =>
              go_enter Try.func92, Try.ntmps92
              go_wp2_with fail
              go_at_call 109; refine (place_any _ _ L _ _ _ (by (repeat (first | assumption | refine LinesAt.ovr ?_ _ | refine LinesAt.alloc ?_ _ | refine LinesAt.drewN ?_ _ | refine LinesAt.drew ?_)))).mono ?_; rintro e w1 ⟨rfl, hbl⟩; obtain ⟨x, rfl⟩ := ovr_of_below hbl; clear hbl
              go_wp2_with fail
              go_at_call 109; refine (place_any _ _ L _ _ _ (by (repeat (first | assumption | refine LinesAt.ovr ?_ _ | refine LinesAt.alloc ?_ _ | refine LinesAt.drewN ?_ _ | refine LinesAt.drew ?_)))).mono ?_; rintro e w1 ⟨rfl, hbl⟩; obtain ⟨x, rfl⟩ := ovr_of_below hbl; clear hbl
              go_wp2_with (go_at_call 95; refine (less_any _ _ _ _ _).mono ?_; rintro e w1 ⟨rfl, hbl⟩; obtain ⟨x, rfl⟩ := ovr_of_below hbl; clear hbl)
              go_ret
              exact ⟨ret_bool (by rw [hy.out, hp1, hp2]; rfl), by (repeat (first | exact Below.refl _ _ | refine Below.alloc ?_ (by first | exact Nat.le_refl _ | (simp; done) | (simp; omega)) _ | refine below_ovr_of ?_ | refine drew_below ?_ _ | refine Below.drew ?_ | refine Below.setCell ?_ (by first | exact Nat.le_refl _ | (simp; done) | (simp; omega)) _ | assumption))⟩
        · by_cases k1 : k = 1
          · subst k1
            have hy := Lib.hid (validB_line (fc := fc) (tc := tc) (by omega : 0 ≤ fl) (by omega : fl ≤ tl) (by omega : tl < (L.length : Int)))
            go_enter Try.func92, Try.ntmps92
            go_wp2
            go_ret
            exact ⟨ret_bool (by rw [hy.out]), by (repeat (first | exact Below.refl _ _ | refine Below.alloc ?_ (by first | exact Nat.le_refl _ | (simp; done) | (simp; omega)) _ | refine below_ovr_of ?_ | refine drew_below ?_ _ | refine Below.drew ?_ | refine Below.setCell ?_ (by first | exact Nat.le_refl _ | (simp; done) | (simp; omega)) _ | assumption))⟩
          · by_cases k2 : k = 2
            · subst k2
              have hy := Lib.hid (validB_block (fc := fc) (tc := tc) (by omega : 0 ≤ fl) (by omega : fl ≤ tl) (by omega : tl < (L.length : Int)))
              go_enter Try.func92, Try.ntmps92
              go_wp2
              all_goals (go_ret; refine ⟨ret_bool ?_, by (repeat (first | exact Below.refl _ _ | refine Below.alloc ?_ (by first | exact Nat.le_refl _ | (simp; done) | (simp; omega)) _ | refine below_ovr_of ?_ | refine drew_below ?_ _ | refine Below.drew ?_ | refine Below.setCell ?_ (by first | exact Nat.le_refl _ | (simp; done) | (simp; omega)) _ | assumption))⟩; rw [hy.out, Bool.eq_iff_iff]; simp; try omega)
            · have hy := Lib.hid (validB_other (L := L) (fl := fl) (fc := fc) (tl := tl) (tc := tc) k0 k1 k2)
              go_enter Try.func92, Try.ntmps92
              go_wp2
              go_ret
              exact ⟨ret_bool (by rw [hy.out]), by (repeat (first | exact Below.refl _ _ | refine Below.alloc ?_ (by first | exact Nat.le_refl _ | (simp; done) | (simp; omega)) _ | refine below_ovr_of ?_ | refine drew_below ?_ _ | refine Below.drew ?_ | refine Below.setCell ?_ (by first | exact Nat.le_refl _ | (simp; done) | (simp; omega)) _ | assumption))⟩
set_option maxHeartbeats 1000000 in
theorem rvalid_any (a : Option Addr) (cap : Nat) (L : List ByteArray) (k fl fc tl tc : Int) (w : World) (hL : LinesAt w a L) :
    Calls Try.prog 90 #[.slice a L.length cap, .agg #[.int .i64 k, .int .i64 fl, .int .i64 fc, .int .i64 tl, .int .i64 tc]] w fun e w' =>
      e = .returned (.bool (validB L k fl fc tl tc)) ∧ Below w.heap.size w w' := by
  have hn := hL.2.1
  by_cases h1 : fl < 0
  · have hy := Lib.hid (validB_fl (L := L) (k := k) (fc := fc) (tl := tl) (tc := tc) h1)
    go_enter Try.func90, Try.ntmps90
    go_wp2
    go_ret
    exact ⟨ret_bool (by rw [hy.out]), by (repeat (first | exact Below.refl _ _ | refine Below.alloc ?_ (by first | exact Nat.le_refl _ | (simp; done) | (simp; omega)) _ | refine below_ovr_of ?_ | refine drew_below ?_ _ | refine Below.drew ?_ | refine Below.setCell ?_ (by first | exact Nat.le_refl _ | (simp; done) | (simp; omega)) _ | assumption))⟩
  · by_cases h2 : tl < fl
    · have hy := Lib.hid (validB_tl (L := L) (k := k) (fc := fc) (tc := tc) h2)
      go_enter Try.func90, Try.ntmps90
      go_wp2
      all_goals (go_ret; exact ⟨ret_bool (by rw [hy.out]), by (repeat (first | exact Below.refl _ _ | refine Below.alloc ?_ (by first | exact Nat.le_refl _ | (simp; done) | (simp; omega)) _ | refine below_ovr_of ?_ | refine drew_below ?_ _ | refine Below.drew ?_ | refine Below.setCell ?_ (by first | exact Nat.le_refl _ | (simp; done) | (simp; omega)) _ | assumption))⟩)
    · by_cases h3 : (L.length : Int) ≤ tl
      · have hy := Lib.hid (validB_len (L := L) (k := k) (fl := fl) (fc := fc) (tc := tc) h3)
        go_enter Try.func90, Try.ntmps90
        go_wp2
        all_goals (go_ret; exact ⟨ret_bool (by rw [hy.out]), by (repeat (first | exact Below.refl _ _ | refine Below.alloc ?_ (by first | exact Nat.le_refl _ | (simp; done) | (simp; omega)) _ | refine below_ovr_of ?_ | refine drew_below ?_ _ | refine Below.drew ?_ | refine Below.setCell ?_ (by first | exact Nat.le_refl _ | (simp; done) | (simp; omega)) _ | assumption))⟩)
      · by_cases k0 : k = 0
        · subst k0
          have hy := Lib.hid (validB_char (fc := fc) (tc := tc) (by omega : 0 ≤ fl) (by omega : fl ≤ tl) (by omega : tl < (L.length : Int)))
          cases hp1 : plcB L fl fc with
          | false =>
            go_enter Try.func90, Try.ntmps90
            go_wp2_with (go_at_call 52; refine (rplace_any _ _ L _ _ _ (by (repeat (first | assumption | refine LinesAt.ovr ?_ _ | refine LinesAt.alloc ?_ _ | refine LinesAt.drewN ?_ _ | refine LinesAt.drew ?_)))).mono ?_; rintro e w1 ⟨rfl, hbl⟩; obtain ⟨x, rfl⟩ := ovr_of_below hbl; clear hbl)
            go_ret
            exact ⟨ret_bool (by rw [hy.out, hp1]; rfl), by (repeat (first | exact Below.refl _ _ | refine Below.alloc ?_ (by first | exact Nat.le_refl _ | (simp; done) | (simp; omega)) _ | refine below_ovr_of ?_ | refine drew_below ?_ _ | refine Below.drew ?_ | refine Below.setCell ?_ (by first | exact Nat.le_refl _ | (simp; done) | (simp; omega)) _ | assumption))⟩
          | true =>
            cases hp2 : plcB L tl tc with
            | false =>
              go_enter Try.func90, Try.ntmps90
              go_wp2_with fail
              go_at_call 52; refine (rplace_any _ _ L _ _ _ (by (repeat (first | assumption | refine LinesAt.ovr ?_ _ | refine LinesAt.alloc ?_ _ | refine LinesAt.drewN ?_ _ | refine LinesAt.drew ?_)))).mono ?_; rintro e w1 ⟨rfl, hbl⟩; obtain ⟨x, rfl⟩ := ovr_of_below hbl; clear hbl
              go_wp2_with fail
              go_at_call 52; refine (rplace_any _ _ L _ _ _ (by (repeat (first | assumption | refine LinesAt.ovr ?_ _ | refine LinesAt.alloc ?_ _ | refine LinesAt.drewN ?_ _ | refine LinesAt.drew ?_)))).mono ?_; rintro e w1 ⟨rfl, hbl⟩; obtain ⟨x, rfl⟩ := ovr_of_below hbl; clear hbl
              go_wp2_with fail
              go_ret
              exact ⟨ret_bool (by rw [hy.out, hp1, hp2]; rfl), by (repeat (first | exact Below.refl _ _ | refine Below.alloc ?_ (by first | exact Nat.le_refl _ | (simp; done) | (simp; omega)) _ | refine below_ovr_of ?_ | refine drew_below ?_ _ | refine Below.drew ?_ | refine Below.setCell ?_ (by first | exact Nat.le_refl _ | (simp; done) | (simp; omega)) _ | assumption))⟩
            | true =>
              go_enter Try.func90, Try.ntmps90
              go_wp2_with fail
              go_at_call 52; refine (rplace_any _ _ L _ _ _ (by (repeat (first | assumption | refine LinesAt.ovr ?_ _ | refine LinesAt.alloc ?_ _ | refine LinesAt.drewN ?_ _ | refine LinesAt.drew ?_)))).mono ?_; rintro e w1 ⟨rfl, hbl⟩; obtain ⟨x, rfl⟩ := ovr_of_below hbl; clear hbl
              go_wp2_with fail
              go_at_call 52; refine (rplace_any _ _ L _ _ _ (by (repeat (first | assumption | refine LinesAt.ovr ?_ _ | refine LinesAt.alloc ?_ _ | refine LinesAt.drewN ?_ _ | refine LinesAt.drew ?_)))).mono ?_; rintro e w1 ⟨rfl, hbl⟩; obtain ⟨x, rfl⟩ := ovr_of_below hbl; clear hbl
              go_wp2_with (go_at_call 72; refine (rless_any _ _ _ _ _).mono ?_; rintro e w1 ⟨rfl, hbl⟩; obtain ⟨x, rfl⟩ := ovr_of_below hbl; clear hbl)
              go_ret
              exact ⟨ret_bool (by rw [hy.out, hp1, hp2]; rfl), by (repeat (first | exact Below.refl _ _ | refine Below.alloc ?_ (by first | exact Nat.le_refl _ | (simp; done) | (simp; omega)) _ | refine below_ovr_of ?_ | refine drew_below ?_ _ | refine Below.drew ?_ | refine Below.setCell ?_ (by first | exact Nat.le_refl _ | (simp; done) | (simp; omega)) _ | assumption))⟩
        · by_cases k1 : k = 1
          · subst k1
            have hy := Lib.hid (validB_line (fc := fc) (tc := tc) (by omega : 0 ≤ fl) (by omega : fl ≤ tl) (by omega : tl < (L.length : Int)))
            go_enter Try.func90, Try.ntmps90
            go_wp2
            go_ret
            exact ⟨ret_bool (by rw [hy.out]), by (repeat (first | exact Below.refl _ _ | refine Below.alloc ?_ (by first | exact Nat.le_refl _ | (simp; done) | (simp; omega)) _ | refine below_ovr_of ?_ | refine drew_below ?_ _ | refine Below.drew ?_ | refine Below.setCell ?_ (by first | exact Nat.le_refl _ | (simp; done) | (simp; omega)) _ | assumption))⟩
          · by_cases k2 : k = 2
            · subst k2
              have hy := Lib.hid (validB_block (fc := fc) (tc := tc) (by omega : 0 ≤ fl) (by omega : fl ≤ tl) (by omega : tl < (L.length : Int)))
              go_enter Try.func90, Try.ntmps90
              go_wp2
              all_goals (go_ret; refine ⟨ret_bool ?_, by (repeat (first | exact Below.refl _ _ | refine Below.alloc ?_ (by first | exact Nat.le_refl _ | (simp; done) | (simp; omega)) _ | refine below_ovr_of ?_ | refine drew_below ?_ _ | refine Below.drew ?_ | refine Below.setCell ?_ (by first | exact Nat.le_refl _ | (simp; done) | (simp; omega)) _ | assumption))⟩; rw [hy.out, Bool.eq_iff_iff]; simp; try omega)
            · have hy := Lib.hid (validB_other (L := L) (fl := fl) (fc := fc) (tl := tl) (tc := tc) k0 k1 k2)
              go_enter Try.func90, Try.ntmps90
              go_wp2
              go_ret
              exact ⟨ret_bool (by rw [hy.out]), by (repeat (first | exact Below.refl _ _ | refine Below.alloc ?_ (by first | exact Nat.le_refl _ | (simp; done) | (simp; omega)) _ | refine below_ovr_of ?_ | refine drew_below ?_ _ | refine Below.drew ?_ | refine Below.setCell ?_ (by first | exact Nat.le_refl _ | (simp; done) | (simp; omega)) _ | assumption))⟩

end Go.Proofs.Ytlbbgocggifjaaa
