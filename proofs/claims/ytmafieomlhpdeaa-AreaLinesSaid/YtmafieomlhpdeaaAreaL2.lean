/- The contracts of area.Visual's reference. Conditions: none beyond what each says. -/
import Derived.Test.YtmafieomlhpdeaaAreaL
namespace Go.Proofs.Ytmafieomlhpdeaa
open Go.RowKit

set_option maxHeartbeats 2000000 in
theorem ravisual_yes (a : Option Addr) (cap : Nat) (L : List ByteArray) (mode al ac bl bc : Int) (w : World) (hL : LinesAt w a L) (h1 : plcB L al ac = true) (h2 : plcB L bl bc = true) :
    Calls Try.prog 36 #[.slice a L.length cap, .int .i64 mode, .agg #[.int .i64 al, .int .i64 ac], .agg #[.int .i64 bl, .int .i64 bc]] w fun e w' =>
      e = .returned (areaV (visualP L mode al ac bl bc)) ∧ Below w.heap.size w w' := by
  have hn := hL.2.1
  obtain ⟨fl, fc, tl, tc, ho, q1, q2, q3⟩ := ordB_facts h1 h2
  have hy := visualP_yes (mode := mode) h1 h2 ho
  have HO := Lib.hid ho
  clear ho
  by_cases k3 : mode = 3
  · subst k3
    obtain ⟨t1, t2, t3, t4⟩ := plcB_spec q2
    obtain ⟨b, off, s, rfl, hb, hcell, hs, HS⟩ := line_facts hL t1 t2
    rw [visualO_3, szI_eq HS.out] at hy
    rw [HS.out] at t4
    rcases (by omega : tc + 1 ≤ (s.size : Int) ∨ ((s.size : Int) < tc + 1 ∧ (s.size : Int) ≤ tc)) with k | k
    · rw [Int.min_eq_left k] at hy
      have HP := Lib.hid hy
      clear hy
      go_enter Try.func36, Try.ntmps36
      go_wp2_with fail
      go_at_call 68; refine (rplace_any _ _ L _ _ _ (by (repeat (first | assumption | refine LinesAt.ovr ?_ _ | refine LinesAt.alloc ?_ _ | refine LinesAt.drewN ?_ _ | refine LinesAt.drew ?_)))).mono ?_; rintro e w1 ⟨rfl, hbl⟩; obtain ⟨x, rfl⟩ := ovr_of_below hbl; clear hbl
      go_wp2_with fail
      go_at_call 68; refine (rplace_any _ _ L _ _ _ (by (repeat (first | assumption | refine LinesAt.ovr ?_ _ | refine LinesAt.alloc ?_ _ | refine LinesAt.drewN ?_ _ | refine LinesAt.drew ?_)))).mono ?_; rintro e w1 ⟨rfl, hbl⟩; obtain ⟨x, rfl⟩ := ovr_of_below hbl; clear hbl
      go_wp2_with (go_at_call 72; refine (rorder_any _ _ _ _ _).mono ?_; rw [HO.out]; rintro e w1 ⟨rfl, hbl⟩; obtain ⟨x, rfl⟩ := ovr_of_below hbl; clear hbl)
      go_region
      go_wp2
      simp [bodyPost, results, Try.results36, go_sem]
      rw [HP.out]
      refine ⟨by simp; try omega, by (repeat (first | with_reducible exact Below.refl _ _ | (with_reducible refine Below.setCell ?_ ?_ _; rotate_left; · (first | exact Nat.le_refl _ | assumption | omega | (simp; done) | (simp; omega))) | (with_reducible refine Below.alloc ?_ ?_ _; rotate_left; · (first | exact Nat.le_refl _ | assumption | omega | (simp; done) | (simp; omega))) | with_reducible refine below_ovr_of ?_ | with_reducible refine drew_below ?_ _ | with_reducible refine Below.drew ?_ | with_reducible assumption))⟩
    · obtain ⟨k, k2⟩ := k
      rw [Int.min_eq_right (by omega)] at hy
      have HP := Lib.hid hy
      clear hy
      go_enter Try.func36, Try.ntmps36
      go_wp2_with fail
      go_at_call 68; refine (rplace_any _ _ L _ _ _ (by (repeat (first | assumption | refine LinesAt.ovr ?_ _ | refine LinesAt.alloc ?_ _ | refine LinesAt.drewN ?_ _ | refine LinesAt.drew ?_)))).mono ?_; rintro e w1 ⟨rfl, hbl⟩; obtain ⟨x, rfl⟩ := ovr_of_below hbl; clear hbl
      go_wp2_with fail
      go_at_call 68; refine (rplace_any _ _ L _ _ _ (by (repeat (first | assumption | refine LinesAt.ovr ?_ _ | refine LinesAt.alloc ?_ _ | refine LinesAt.drewN ?_ _ | refine LinesAt.drew ?_)))).mono ?_; rintro e w1 ⟨rfl, hbl⟩; obtain ⟨x, rfl⟩ := ovr_of_below hbl; clear hbl
      go_wp2_with (go_at_call 72; refine (rorder_any _ _ _ _ _).mono ?_; rw [HO.out]; rintro e w1 ⟨rfl, hbl⟩; obtain ⟨x, rfl⟩ := ovr_of_below hbl; clear hbl)
      go_region
      go_wp2
      simp [bodyPost, results, Try.results36, go_sem]
      rw [HP.out]
      refine ⟨by simp; try omega, by (repeat (first | with_reducible exact Below.refl _ _ | (with_reducible refine Below.setCell ?_ ?_ _; rotate_left; · (first | exact Nat.le_refl _ | assumption | omega | (simp; done) | (simp; omega))) | (with_reducible refine Below.alloc ?_ ?_ _; rotate_left; · (first | exact Nat.le_refl _ | assumption | omega | (simp; done) | (simp; omega))) | with_reducible refine below_ovr_of ?_ | with_reducible refine drew_below ?_ _ | with_reducible refine Below.drew ?_ | with_reducible assumption))⟩
  · by_cases k4 : mode = 4
    · subst k4
      rw [visualO_4] at hy
      have HP := Lib.hid hy
      clear hy
      go_enter Try.func36, Try.ntmps36
      go_wp2_with fail
      go_at_call 68; refine (rplace_any _ _ L _ _ _ (by (repeat (first | assumption | refine LinesAt.ovr ?_ _ | refine LinesAt.alloc ?_ _ | refine LinesAt.drewN ?_ _ | refine LinesAt.drew ?_)))).mono ?_; rintro e w1 ⟨rfl, hbl⟩; obtain ⟨x, rfl⟩ := ovr_of_below hbl; clear hbl
      go_wp2_with fail
      go_at_call 68; refine (rplace_any _ _ L _ _ _ (by (repeat (first | assumption | refine LinesAt.ovr ?_ _ | refine LinesAt.alloc ?_ _ | refine LinesAt.drewN ?_ _ | refine LinesAt.drew ?_)))).mono ?_; rintro e w1 ⟨rfl, hbl⟩; obtain ⟨x, rfl⟩ := ovr_of_below hbl; clear hbl
      go_wp2_with (first | (go_at_call 72; refine (rorder_any _ _ _ _ _).mono ?_; rw [HO.out]; rintro e w1 ⟨rfl, hbl⟩; obtain ⟨x, rfl⟩ := ovr_of_below hbl; clear hbl) | (go_at_call 69; refine (rwhole_any _ _ _).mono ?_; rintro e w1 ⟨rfl, hbl⟩; obtain ⟨x, rfl⟩ := ovr_of_below hbl; clear hbl))
      simp [bodyPost, results, Try.results36, go_sem]
      rw [HP.out]
      refine ⟨by simp; try omega, by (repeat (first | with_reducible exact Below.refl _ _ | (with_reducible refine Below.setCell ?_ ?_ _; rotate_left; · (first | exact Nat.le_refl _ | assumption | omega | (simp; done) | (simp; omega))) | (with_reducible refine Below.alloc ?_ ?_ _; rotate_left; · (first | exact Nat.le_refl _ | assumption | omega | (simp; done) | (simp; omega))) | with_reducible refine below_ovr_of ?_ | with_reducible refine drew_below ?_ _ | with_reducible refine Below.drew ?_ | with_reducible assumption))⟩
    · by_cases k5 : mode = 5
      · subst k5
        rw [visualO_5] at hy
        rcases (by omega : fc ≤ tc ∨ (tc < fc ∧ tc ≤ fc)) with k | ⟨k, k2⟩
        · rw [Int.min_eq_left k, Int.max_eq_right k] at hy
          have HP := Lib.hid hy
          clear hy
          go_enter Try.func36, Try.ntmps36
          go_wp2_with fail
          go_at_call 68; refine (rplace_any _ _ L _ _ _ (by (repeat (first | assumption | refine LinesAt.ovr ?_ _ | refine LinesAt.alloc ?_ _ | refine LinesAt.drewN ?_ _ | refine LinesAt.drew ?_)))).mono ?_; rintro e w1 ⟨rfl, hbl⟩; obtain ⟨x, rfl⟩ := ovr_of_below hbl; clear hbl
          go_wp2_with fail
          go_at_call 68; refine (rplace_any _ _ L _ _ _ (by (repeat (first | assumption | refine LinesAt.ovr ?_ _ | refine LinesAt.alloc ?_ _ | refine LinesAt.drewN ?_ _ | refine LinesAt.drew ?_)))).mono ?_; rintro e w1 ⟨rfl, hbl⟩; obtain ⟨x, rfl⟩ := ovr_of_below hbl; clear hbl
          go_wp2_with (go_at_call 72; refine (rorder_any _ _ _ _ _).mono ?_; rw [HO.out]; rintro e w1 ⟨rfl, hbl⟩; obtain ⟨x, rfl⟩ := ovr_of_below hbl; clear hbl)
          all_goals (
            simp [bodyPost, results, Try.results36, go_sem]
            rw [HP.out]
            refine ⟨by simp; try omega, by (repeat (first | with_reducible exact Below.refl _ _ | (with_reducible refine Below.setCell ?_ ?_ _; rotate_left; · (first | exact Nat.le_refl _ | assumption | omega | (simp; done) | (simp; omega))) | (with_reducible refine Below.alloc ?_ ?_ _; rotate_left; · (first | exact Nat.le_refl _ | assumption | omega | (simp; done) | (simp; omega))) | with_reducible refine below_ovr_of ?_ | with_reducible refine drew_below ?_ _ | with_reducible refine Below.drew ?_ | with_reducible assumption))⟩)
        · rw [Int.min_eq_right k2, Int.max_eq_left k2] at hy
          have HP := Lib.hid hy
          clear hy
          go_enter Try.func36, Try.ntmps36
          go_wp2_with fail
          go_at_call 68; refine (rplace_any _ _ L _ _ _ (by (repeat (first | assumption | refine LinesAt.ovr ?_ _ | refine LinesAt.alloc ?_ _ | refine LinesAt.drewN ?_ _ | refine LinesAt.drew ?_)))).mono ?_; rintro e w1 ⟨rfl, hbl⟩; obtain ⟨x, rfl⟩ := ovr_of_below hbl; clear hbl
          go_wp2_with fail
          go_at_call 68; refine (rplace_any _ _ L _ _ _ (by (repeat (first | assumption | refine LinesAt.ovr ?_ _ | refine LinesAt.alloc ?_ _ | refine LinesAt.drewN ?_ _ | refine LinesAt.drew ?_)))).mono ?_; rintro e w1 ⟨rfl, hbl⟩; obtain ⟨x, rfl⟩ := ovr_of_below hbl; clear hbl
          go_wp2_with (go_at_call 72; refine (rorder_any _ _ _ _ _).mono ?_; rw [HO.out]; rintro e w1 ⟨rfl, hbl⟩; obtain ⟨x, rfl⟩ := ovr_of_below hbl; clear hbl)
          all_goals (
            simp [bodyPost, results, Try.results36, go_sem]
            rw [HP.out]
            refine ⟨by simp; try omega, by (repeat (first | with_reducible exact Below.refl _ _ | (with_reducible refine Below.setCell ?_ ?_ _; rotate_left; · (first | exact Nat.le_refl _ | assumption | omega | (simp; done) | (simp; omega))) | (with_reducible refine Below.alloc ?_ ?_ _; rotate_left; · (first | exact Nat.le_refl _ | assumption | omega | (simp; done) | (simp; omega))) | with_reducible refine below_ovr_of ?_ | with_reducible refine drew_below ?_ _ | with_reducible refine Below.drew ?_ | with_reducible assumption))⟩)
      · rw [visualO_x k3 k4 k5] at hy
        have HP := Lib.hid hy
        have b3 : (mode == 3) = false := beq_eq_false_iff_ne.2 k3
        have b4 : (mode == 4) = false := beq_eq_false_iff_ne.2 k4
        have b5 : (mode == 5) = false := beq_eq_false_iff_ne.2 k5
        clear hy k3 k4 k5
        go_enter Try.func36, Try.ntmps36
        go_wp2_with fail
        go_at_call 68; refine (rplace_any _ _ L _ _ _ (by (repeat (first | assumption | refine LinesAt.ovr ?_ _ | refine LinesAt.alloc ?_ _ | refine LinesAt.drewN ?_ _ | refine LinesAt.drew ?_)))).mono ?_; rintro e w1 ⟨rfl, hbl⟩; obtain ⟨x, rfl⟩ := ovr_of_below hbl; clear hbl
        go_wp2_with fail
        go_at_call 68; refine (rplace_any _ _ L _ _ _ (by (repeat (first | assumption | refine LinesAt.ovr ?_ _ | refine LinesAt.alloc ?_ _ | refine LinesAt.drewN ?_ _ | refine LinesAt.drew ?_)))).mono ?_; rintro e w1 ⟨rfl, hbl⟩; obtain ⟨x, rfl⟩ := ovr_of_below hbl; clear hbl
        go_wp2_with (go_at_call 72; refine (rorder_any _ _ _ _ _).mono ?_; rw [HO.out]; rintro e w1 ⟨rfl, hbl⟩; obtain ⟨x, rfl⟩ := ovr_of_below hbl; clear hbl)
        refine bodyPost_ret (v := areaV noRng) (by simp [results, Try.results36, go_sem, noRng]) rfl ⟨by rw [HP.out], by (repeat (first | with_reducible exact Below.refl _ _ | (with_reducible refine Below.setCell ?_ ?_ _; rotate_left; · (first | exact Nat.le_refl _ | assumption | omega | (simp; done) | (simp; omega))) | (with_reducible refine Below.alloc ?_ ?_ _; rotate_left; · (first | exact Nat.le_refl _ | assumption | omega | (simp; done) | (simp; omega))) | with_reducible refine below_ovr_of ?_ | with_reducible refine drew_below ?_ _ | with_reducible refine Below.drew ?_ | with_reducible assumption))⟩

theorem avisual_any (a : Option Addr) (cap : Nat) (L : List ByteArray) (mode al ac bl bc : Int) (w : World) (hL : LinesAt w a L) :
    Calls Try.prog 35 #[.slice a L.length cap, .int .i64 mode, .agg #[.int .i64 al, .int .i64 ac], .agg #[.int .i64 bl, .int .i64 bc]] w fun e w' =>
      e = .returned (areaV (visualP L mode al ac bl bc)) ∧ Below w.heap.size w w' := by
  cases h1 : plcB L al ac with
  | false => exact avisual_no a cap L mode al ac bl bc w hL (.inl h1)
  | true =>
    cases h2 : plcB L bl bc with
    | false => exact avisual_no a cap L mode al ac bl bc w hL (.inr h2)
    | true => exact avisual_yes a cap L mode al ac bl bc w hL h1 h2
theorem ravisual_any (a : Option Addr) (cap : Nat) (L : List ByteArray) (mode al ac bl bc : Int) (w : World) (hL : LinesAt w a L) :
    Calls Try.prog 36 #[.slice a L.length cap, .int .i64 mode, .agg #[.int .i64 al, .int .i64 ac], .agg #[.int .i64 bl, .int .i64 bc]] w fun e w' =>
      e = .returned (areaV (visualP L mode al ac bl bc)) ∧ Below w.heap.size w w' := by
  cases h1 : plcB L al ac with
  | false => exact ravisual_no a cap L mode al ac bl bc w hL (.inl h1)
  | true =>
    cases h2 : plcB L bl bc with
    | false => exact ravisual_no a cap L mode al ac bl bc w hL (.inr h2)
    | true => exact ravisual_yes a cap L mode al ac bl bc w hL h1 h2
end Go.Proofs.Ytmafieomlhpdeaa
