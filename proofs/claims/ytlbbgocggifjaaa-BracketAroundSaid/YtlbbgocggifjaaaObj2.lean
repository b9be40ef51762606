/- The contracts of what stands in brackets. Conditions: none beyond what each says. -/
import Derived.Test.YtlbbgocggifjaaaObj
namespace Go.Proofs.Ytlbbgocggifjaaa
open Go.RowKit

set_option maxRecDepth 100000 in
set_option maxHeartbeats 2000000 in
theorem binner_any (a : Option Addr) (cap : Nat) (L : List ByteArray) (pl pc o n : Int) (w : World) (hL : LinesAt w a L) (htot : total L ≤ 1000000) (hn2 : n ≤ 9223372036854775807) :
    Calls Try.prog 54 #[.slice a L.length cap, .agg #[.int .i64 pl, .int .i64 pc], .int .u8 o, .int .i64 n] w fun e w' => e = .returned (rngV (bracketP L pl pc o n false)) ∧ Below w.heap.size w w' := by
  cases hb : byteB L pl pc with
  | false =>
    have HBO : Hid ((if byteB L pl pc = true then enclP L pl pc o n else noEnc) = (((0, 0), (0, 0)), false)) := Lib.hid (by rw [hb, if_neg (by simp)]; rfl)
    have HY := Lib.hid (bracketP_no (o := o) (n := n) (around := false) hb)
    clear hb
    go_enter Try.func54, Try.ntmps54
    go_wp2_with (go_at_call 115; refine (both_at _ _ L _ _ _ _ _ (by (repeat (first | assumption | refine LinesAt.ovr ?_ _ | refine LinesAt.alloc ?_ _ | refine LinesAt.drewN ?_ _ | refine LinesAt.drew ?_))) (by omega) (by omega) HBO).mono ?_; rintro e w1 ⟨rfl, hbl⟩; obtain ⟨x, rfl⟩ := ovr_of_below hbl; clear hbl)
    refine bodyPost_ret (v := rngV noR) (by simp [results, Try.results54, go_sem, noR]) rfl ⟨by rw [HY.out], by (repeat (first | with_reducible exact Below.refl _ _ | (with_reducible refine Below.setCell ?_ ?_ _; rotate_left; · (first | exact Nat.le_refl _ | assumption | omega | (simp; done) | (simp; omega))) | (with_reducible refine Below.alloc ?_ ?_ _; rotate_left; · (first | exact Nat.le_refl _ | assumption | omega | (simp; done) | (simp; omega))) | with_reducible refine below_ovr_of ?_ | with_reducible refine drew_below ?_ _ | with_reducible refine Below.drew ?_ | with_reducible assumption))⟩
  | true =>
    obtain ⟨⟨⟨⟨a1, b1⟩, ⟨c1, d1⟩⟩, ok1⟩, hr⟩ : ∃ r, enclP L pl pc o n = r := ⟨_, rfl⟩
    have HBO : Hid ((if byteB L pl pc = true then enclP L pl pc o n else noEnc) = (((a1, b1), (c1, d1)), ok1)) := Lib.hid (by rw [hb, if_pos rfl, hr])
    cases ok1 with
    | false =>
      have HY := Lib.hid (bracketP_none (around := false) hr)
      clear hb hr
      go_enter Try.func54, Try.ntmps54
      go_wp2_with (go_at_call 115; refine (both_at _ _ L _ _ _ _ _ (by (repeat (first | assumption | refine LinesAt.ovr ?_ _ | refine LinesAt.alloc ?_ _ | refine LinesAt.drewN ?_ _ | refine LinesAt.drew ?_))) (by omega) (by omega) HBO).mono ?_; rintro e w1 ⟨rfl, hbl⟩; obtain ⟨x, rfl⟩ := ovr_of_below hbl; clear hbl)
      refine bodyPost_ret (v := rngV noR) (by simp [results, Try.results54, go_sem, noR]) rfl ⟨by rw [HY.out], by (repeat (first | with_reducible exact Below.refl _ _ | (with_reducible refine Below.setCell ?_ ?_ _; rotate_left; · (first | exact Nat.le_refl _ | assumption | omega | (simp; done) | (simp; omega))) | (with_reducible refine Below.alloc ?_ ?_ _; rotate_left; · (first | exact Nat.le_refl _ | assumption | omega | (simp; done) | (simp; omega))) | with_reducible refine below_ovr_of ?_ | with_reducible refine drew_below ?_ _ | with_reducible refine Below.drew ?_ | with_reducible assumption))⟩
    | true =>
      have HY := Lib.hid (bracketP_in hb hr)
      obtain ⟨g1, g2, g3, g4⟩ := enclP_bd hr
      have g5 : b1 ≤ 1000000 := by omega
      have g6 : d1 ≤ 1000000 := by omega
      clear hb hr g2 g4
      go_enter Try.func54, Try.ntmps54
      go_wp2_with (go_at_call 115; refine (both_at _ _ L _ _ _ _ _ (by (repeat (first | assumption | refine LinesAt.ovr ?_ _ | refine LinesAt.alloc ?_ _ | refine LinesAt.drewN ?_ _ | refine LinesAt.drew ?_))) (by omega) (by omega) HBO).mono ?_; rintro e w1 ⟨rfl, hbl⟩; obtain ⟨x, rfl⟩ := ovr_of_below hbl; clear hbl)
      refine bodyPost_ret (v := rngV ((0, a1, b1 + 1, c1, d1), true)) (by simp [results, Try.results54, go_sem]) rfl ⟨by rw [HY.out], by (repeat (first | with_reducible exact Below.refl _ _ | (with_reducible refine Below.setCell ?_ ?_ _; rotate_left; · (first | exact Nat.le_refl _ | assumption | omega | (simp; done) | (simp; omega))) | (with_reducible refine Below.alloc ?_ ?_ _; rotate_left; · (first | exact Nat.le_refl _ | assumption | omega | (simp; done) | (simp; omega))) | with_reducible refine below_ovr_of ?_ | with_reducible refine drew_below ?_ _ | with_reducible refine Below.drew ?_ | with_reducible assumption))⟩
set_option maxRecDepth 100000 in
set_option maxHeartbeats 2000000 in
theorem baround_any (a : Option Addr) (cap : Nat) (L : List ByteArray) (pl pc o n : Int) (w : World) (hL : LinesAt w a L) (htot : total L ≤ 1000000) (hn2 : n ≤ 9223372036854775807) :
    Calls Try.prog 56 #[.slice a L.length cap, .agg #[.int .i64 pl, .int .i64 pc], .int .u8 o, .int .i64 n] w fun e w' => e = .returned (rngV (bracketP L pl pc o n true)) ∧ Below w.heap.size w w' := by
  cases hb : byteB L pl pc with
  | false =>
    have HBO : Hid ((if byteB L pl pc = true then enclP L pl pc o n else noEnc) = (((0, 0), (0, 0)), false)) := Lib.hid (by rw [hb, if_neg (by simp)]; rfl)
    have HY := Lib.hid (bracketP_no (o := o) (n := n) (around := true) hb)
    clear hb
    go_enter Try.func56, Try.ntmps56
    go_wp2_with (go_at_call 115; refine (both_at _ _ L _ _ _ _ _ (by (repeat (first | assumption | refine LinesAt.ovr ?_ _ | refine LinesAt.alloc ?_ _ | refine LinesAt.drewN ?_ _ | refine LinesAt.drew ?_))) (by omega) (by omega) HBO).mono ?_; rintro e w1 ⟨rfl, hbl⟩; obtain ⟨x, rfl⟩ := ovr_of_below hbl; clear hbl)
    refine bodyPost_ret (v := rngV noR) (by simp [results, Try.results56, go_sem, noR]) rfl ⟨by rw [HY.out], by (repeat (first | with_reducible exact Below.refl _ _ | (with_reducible refine Below.setCell ?_ ?_ _; rotate_left; · (first | exact Nat.le_refl _ | assumption | omega | (simp; done) | (simp; omega))) | (with_reducible refine Below.alloc ?_ ?_ _; rotate_left; · (first | exact Nat.le_refl _ | assumption | omega | (simp; done) | (simp; omega))) | with_reducible refine below_ovr_of ?_ | with_reducible refine drew_below ?_ _ | with_reducible refine Below.drew ?_ | with_reducible assumption))⟩
  | true =>
    obtain ⟨⟨⟨⟨a1, b1⟩, ⟨c1, d1⟩⟩, ok1⟩, hr⟩ : ∃ r, enclP L pl pc o n = r := ⟨_, rfl⟩
    have HBO : Hid ((if byteB L pl pc = true then enclP L pl pc o n else noEnc) = (((a1, b1), (c1, d1)), ok1)) := Lib.hid (by rw [hb, if_pos rfl, hr])
    cases ok1 with
    | false =>
      have HY := Lib.hid (bracketP_none (around := true) hr)
      clear hb hr
      go_enter Try.func56, Try.ntmps56
      go_wp2_with (go_at_call 115; refine (both_at _ _ L _ _ _ _ _ (by (repeat (first | assumption | refine LinesAt.ovr ?_ _ | refine LinesAt.alloc ?_ _ | refine LinesAt.drewN ?_ _ | refine LinesAt.drew ?_))) (by omega) (by omega) HBO).mono ?_; rintro e w1 ⟨rfl, hbl⟩; obtain ⟨x, rfl⟩ := ovr_of_below hbl; clear hbl)
      refine bodyPost_ret (v := rngV noR) (by simp [results, Try.results56, go_sem, noR]) rfl ⟨by rw [HY.out], by (repeat (first | with_reducible exact Below.refl _ _ | (with_reducible refine Below.setCell ?_ ?_ _; rotate_left; · (first | exact Nat.le_refl _ | assumption | omega | (simp; done) | (simp; omega))) | (with_reducible refine Below.alloc ?_ ?_ _; rotate_left; · (first | exact Nat.le_refl _ | assumption | omega | (simp; done) | (simp; omega))) | with_reducible refine below_ovr_of ?_ | with_reducible refine drew_below ?_ _ | with_reducible refine Below.drew ?_ | with_reducible assumption))⟩
    | true =>
      have HY := Lib.hid (bracketP_out hb hr)
      obtain ⟨g1, g2, g3, g4⟩ := enclP_bd hr
      have g5 : b1 ≤ 1000000 := by omega
      have g6 : d1 ≤ 1000000 := by omega
      clear hb hr g2 g4
      go_enter Try.func56, Try.ntmps56
      go_wp2_with (go_at_call 115; refine (both_at _ _ L _ _ _ _ _ (by (repeat (first | assumption | refine LinesAt.ovr ?_ _ | refine LinesAt.alloc ?_ _ | refine LinesAt.drewN ?_ _ | refine LinesAt.drew ?_))) (by omega) (by omega) HBO).mono ?_; rintro e w1 ⟨rfl, hbl⟩; obtain ⟨x, rfl⟩ := ovr_of_below hbl; clear hbl)
      refine bodyPost_ret (v := rngV ((0, a1, b1, c1, d1 + 1), true)) (by simp [results, Try.results56, go_sem]) rfl ⟨by rw [HY.out], by (repeat (first | with_reducible exact Below.refl _ _ | (with_reducible refine Below.setCell ?_ ?_ _; rotate_left; · (first | exact Nat.le_refl _ | assumption | omega | (simp; done) | (simp; omega))) | (with_reducible refine Below.alloc ?_ ?_ _; rotate_left; · (first | exact Nat.le_refl _ | assumption | omega | (simp; done) | (simp; omega))) | with_reducible refine below_ovr_of ?_ | with_reducible refine drew_below ?_ _ | with_reducible refine Below.drew ?_ | with_reducible assumption))⟩

set_option maxRecDepth 100000 in
set_option maxHeartbeats 2000000 in
theorem rbinner_any (a : Option Addr) (cap : Nat) (L : List ByteArray) (pl pc o n : Int) (w : World) (hL : LinesAt w a L) (htot : total L ≤ 1000000) (hn2 : n ≤ 9223372036854775807) :
    Calls Try.prog 55 #[.slice a L.length cap, .agg #[.int .i64 pl, .int .i64 pc], .int .u8 o, .int .i64 n, .bool false] w fun e w' => e = .returned (rngV (bracketP L pl pc o n false)) ∧ Below w.heap.size w w' := by
  obtain ⟨q, hq⟩ : ∃ q, (byteB L pl pc && decide (1 ≤ n)) = q := ⟨_, rfl⟩
  have HON := Lib.hid hq
  cases q with
  | false =>
    have HY : Hid (bracketP L pl pc o n false = noR) := Lib.hid (by
      rw [Bool.and_eq_false_iff] at hq
      rcases hq with hq | hq
      · exact bracketP_no hq
      · exact bracketP_none (a := 0) (b := 0) (x := 0) (y := 0) (enclP_no (fun h => by simp at hq; omega)))
    clear hq
    go_enter Try.func55, Try.ntmps55
    go_wp2_with (go_at_call 100; refine (on_at _ _ L _ _ _ _ (by (repeat (first | assumption | refine LinesAt.ovr ?_ _ | refine LinesAt.alloc ?_ _ | refine LinesAt.drewN ?_ _ | refine LinesAt.drew ?_))) HON).mono ?_; rintro e w1 ⟨rfl, hbl⟩; obtain ⟨x, rfl⟩ := ovr_of_below hbl; clear hbl)
    refine bodyPost_ret (v := rngV noR) (by simp [results, Try.results55, go_sem, noR]) rfl ⟨by rw [HY.out], by (repeat (first | with_reducible exact Below.refl _ _ | (with_reducible refine Below.setCell ?_ ?_ _; rotate_left; · (first | exact Nat.le_refl _ | assumption | omega | (simp; done) | (simp; omega))) | (with_reducible refine Below.alloc ?_ ?_ _; rotate_left; · (first | exact Nat.le_refl _ | assumption | omega | (simp; done) | (simp; omega))) | with_reducible refine below_ovr_of ?_ | with_reducible refine drew_below ?_ _ | with_reducible refine Below.drew ?_ | with_reducible assumption))⟩
  | true =>
    rw [Bool.and_eq_true] at hq
    obtain ⟨hb, _⟩ := hq
    obtain ⟨⟨⟨⟨a1, b1⟩, ⟨c1, d1⟩⟩, ok1⟩, hr⟩ : ∃ r, enclP L pl pc o n = r := ⟨_, rfl⟩
    have HR1 := Lib.hid hr
    cases ok1 with
    | false =>
      have HY := Lib.hid (bracketP_none (around := false) hr)
      clear hb hr
      go_enter Try.func55, Try.ntmps55
      go_wp2_with (first | (go_at_call 100; refine (on_at _ _ L _ _ _ _ (by (repeat (first | assumption | refine LinesAt.ovr ?_ _ | refine LinesAt.alloc ?_ _ | refine LinesAt.drewN ?_ _ | refine LinesAt.drew ?_))) HON).mono ?_; rintro e w1 ⟨rfl, hbl⟩; obtain ⟨x, rfl⟩ := ovr_of_below hbl; clear hbl) | (go_at_call 51; refine (rencl_any _ _ L _ _ _ _ _ (by (repeat (first | assumption | refine LinesAt.ovr ?_ _ | refine LinesAt.alloc ?_ _ | refine LinesAt.drewN ?_ _ | refine LinesAt.drew ?_))) (by omega) (by omega)).mono ?_; rw [HR1.out]; rintro e w1 ⟨rfl, hbl⟩; obtain ⟨x, rfl⟩ := ovr_of_below hbl; clear hbl))
      refine bodyPost_ret (v := rngV noR) (by simp [results, Try.results55, go_sem, noR]) rfl ⟨by rw [HY.out], by (repeat (first | with_reducible exact Below.refl _ _ | (with_reducible refine Below.setCell ?_ ?_ _; rotate_left; · (first | exact Nat.le_refl _ | assumption | omega | (simp; done) | (simp; omega))) | (with_reducible refine Below.alloc ?_ ?_ _; rotate_left; · (first | exact Nat.le_refl _ | assumption | omega | (simp; done) | (simp; omega))) | with_reducible refine below_ovr_of ?_ | with_reducible refine drew_below ?_ _ | with_reducible refine Below.drew ?_ | with_reducible assumption))⟩
    | true =>
      have HY := Lib.hid (bracketP_in hb hr)
      obtain ⟨g1, g2, g3, g4⟩ := enclP_bd hr
      have g5 : b1 ≤ 1000000 := by omega
      have g6 : d1 ≤ 1000000 := by omega
      clear hb hr g2 g4
      go_enter Try.func55, Try.ntmps55
      go_wp2_with (first | (go_at_call 100; refine (on_at _ _ L _ _ _ _ (by (repeat (first | assumption | refine LinesAt.ovr ?_ _ | refine LinesAt.alloc ?_ _ | refine LinesAt.drewN ?_ _ | refine LinesAt.drew ?_))) HON).mono ?_; rintro e w1 ⟨rfl, hbl⟩; obtain ⟨x, rfl⟩ := ovr_of_below hbl; clear hbl) | (go_at_call 51; refine (rencl_any _ _ L _ _ _ _ _ (by (repeat (first | assumption | refine LinesAt.ovr ?_ _ | refine LinesAt.alloc ?_ _ | refine LinesAt.drewN ?_ _ | refine LinesAt.drew ?_))) (by omega) (by omega)).mono ?_; rw [HR1.out]; rintro e w1 ⟨rfl, hbl⟩; obtain ⟨x, rfl⟩ := ovr_of_below hbl; clear hbl) | (go_at_call 116; refine (char_any _ _ _ _ _).mono ?_; rintro e w1 ⟨rfl, hbl⟩; obtain ⟨x, rfl⟩ := ovr_of_below hbl; clear hbl))
      refine bodyPost_ret (v := rngV ((0, a1, b1 + 1, c1, d1), true)) (by simp [results, Try.results55, go_sem]) rfl ⟨by rw [HY.out], by (repeat (first | with_reducible exact Below.refl _ _ | (with_reducible refine Below.setCell ?_ ?_ _; rotate_left; · (first | exact Nat.le_refl _ | assumption | omega | (simp; done) | (simp; omega))) | (with_reducible refine Below.alloc ?_ ?_ _; rotate_left; · (first | exact Nat.le_refl _ | assumption | omega | (simp; done) | (simp; omega))) | with_reducible refine below_ovr_of ?_ | with_reducible refine drew_below ?_ _ | with_reducible refine Below.drew ?_ | with_reducible assumption))⟩
set_option maxRecDepth 100000 in
set_option maxHeartbeats 2000000 in
theorem rbaround_any (a : Option Addr) (cap : Nat) (L : List ByteArray) (pl pc o n : Int) (w : World) (hL : LinesAt w a L) (htot : total L ≤ 1000000) (hn2 : n ≤ 9223372036854775807) :
    Calls Try.prog 55 #[.slice a L.length cap, .agg #[.int .i64 pl, .int .i64 pc], .int .u8 o, .int .i64 n, .bool true] w fun e w' => e = .returned (rngV (bracketP L pl pc o n true)) ∧ Below w.heap.size w w' := by
  obtain ⟨q, hq⟩ : ∃ q, (byteB L pl pc && decide (1 ≤ n)) = q := ⟨_, rfl⟩
  have HON := Lib.hid hq
  cases q with
  | false =>
    have HY : Hid (bracketP L pl pc o n true = noR) := Lib.hid (by
      rw [Bool.and_eq_false_iff] at hq
      rcases hq with hq | hq
      · exact bracketP_no hq
      · exact bracketP_none (a := 0) (b := 0) (x := 0) (y := 0) (enclP_no (fun h => by simp at hq; omega)))
    clear hq
    go_enter Try.func55, Try.ntmps55
    go_wp2_with (go_at_call 100; refine (on_at _ _ L _ _ _ _ (by (repeat (first | assumption | refine LinesAt.ovr ?_ _ | refine LinesAt.alloc ?_ _ | refine LinesAt.drewN ?_ _ | refine LinesAt.drew ?_))) HON).mono ?_; rintro e w1 ⟨rfl, hbl⟩; obtain ⟨x, rfl⟩ := ovr_of_below hbl; clear hbl)
    refine bodyPost_ret (v := rngV noR) (by simp [results, Try.results55, go_sem, noR]) rfl ⟨by rw [HY.out], by (repeat (first | with_reducible exact Below.refl _ _ | (with_reducible refine Below.setCell ?_ ?_ _; rotate_left; · (first | exact Nat.le_refl _ | assumption | omega | (simp; done) | (simp; omega))) | (with_reducible refine Below.alloc ?_ ?_ _; rotate_left; · (first | exact Nat.le_refl _ | assumption | omega | (simp; done) | (simp; omega))) | with_reducible refine below_ovr_of ?_ | with_reducible refine drew_below ?_ _ | with_reducible refine Below.drew ?_ | with_reducible assumption))⟩
  | true =>
    rw [Bool.and_eq_true] at hq
    obtain ⟨hb, _⟩ := hq
    obtain ⟨⟨⟨⟨a1, b1⟩, ⟨c1, d1⟩⟩, ok1⟩, hr⟩ : ∃ r, enclP L pl pc o n = r := ⟨_, rfl⟩
    have HR1 := Lib.hid hr
    cases ok1 with
    | false =>
      have HY := Lib.hid (bracketP_none (around := true) hr)
      clear hb hr
      go_enter Try.func55, Try.ntmps55
      go_wp2_with (first | (go_at_call 100; refine (on_at _ _ L _ _ _ _ (by (repeat (first | assumption | refine LinesAt.ovr ?_ _ | refine LinesAt.alloc ?_ _ | refine LinesAt.drewN ?_ _ | refine LinesAt.drew ?_))) HON).mono ?_; rintro e w1 ⟨rfl, hbl⟩; obtain ⟨x, rfl⟩ := ovr_of_below hbl; clear hbl) | (go_at_call 51; refine (rencl_any _ _ L _ _ _ _ _ (by (repeat (first | assumption | refine LinesAt.ovr ?_ _ | refine LinesAt.alloc ?_ _ | refine LinesAt.drewN ?_ _ | refine LinesAt.drew ?_))) (by omega) (by omega)).mono ?_; rw [HR1.out]; rintro e w1 ⟨rfl, hbl⟩; obtain ⟨x, rfl⟩ := ovr_of_below hbl; clear hbl))
      refine bodyPost_ret (v := rngV noR) (by simp [results, Try.results55, go_sem, noR]) rfl ⟨by rw [HY.out], by (repeat (first | with_reducible exact Below.refl _ _ | (with_reducible refine Below.setCell ?_ ?_ _; rotate_left; · (first | exact Nat.le_refl _ | assumption | omega | (simp; done) | (simp; omega))) | (with_reducible refine Below.alloc ?_ ?_ _; rotate_left; · (first | exact Nat.le_refl _ | assumption | omega | (simp; done) | (simp; omega))) | with_reducible refine below_ovr_of ?_ | with_reducible refine drew_below ?_ _ | with_reducible refine Below.drew ?_ | with_reducible assumption))⟩
    | true =>
      have HY := Lib.hid (bracketP_out hb hr)
      obtain ⟨g1, g2, g3, g4⟩ := enclP_bd hr
      have g5 : b1 ≤ 1000000 := by omega
      have g6 : d1 ≤ 1000000 := by omega
      clear hb hr g2 g4
      go_enter Try.func55, Try.ntmps55
      go_wp2_with (first | (go_at_call 100; refine (on_at _ _ L _ _ _ _ (by (repeat (first | assumption | refine LinesAt.ovr ?_ _ | refine LinesAt.alloc ?_ _ | refine LinesAt.drewN ?_ _ | refine LinesAt.drew ?_))) HON).mono ?_; rintro e w1 ⟨rfl, hbl⟩; obtain ⟨x, rfl⟩ := ovr_of_below hbl; clear hbl) | (go_at_call 51; refine (rencl_any _ _ L _ _ _ _ _ (by (repeat (first | assumption | refine LinesAt.ovr ?_ _ | refine LinesAt.alloc ?_ _ | refine LinesAt.drewN ?_ _ | refine LinesAt.drew ?_))) (by omega) (by omega)).mono ?_; rw [HR1.out]; rintro e w1 ⟨rfl, hbl⟩; obtain ⟨x, rfl⟩ := ovr_of_below hbl; clear hbl) | (go_at_call 116; refine (char_any _ _ _ _ _).mono ?_; rintro e w1 ⟨rfl, hbl⟩; obtain ⟨x, rfl⟩ := ovr_of_below hbl; clear hbl))
      refine bodyPost_ret (v := rngV ((0, a1, b1, c1, d1 + 1), true)) (by simp [results, Try.results55, go_sem]) rfl ⟨by rw [HY.out], by (repeat (first | with_reducible exact Below.refl _ _ | (with_reducible refine Below.setCell ?_ ?_ _; rotate_left; · (first | exact Nat.le_refl _ | assumption | omega | (simp; done) | (simp; omega))) | (with_reducible refine Below.alloc ?_ ?_ _; rotate_left; · (first | exact Nat.le_refl _ | assumption | omega | (simp; done) | (simp; omega))) | with_reducible refine below_ovr_of ?_ | with_reducible refine drew_below ?_ _ | with_reducible refine Below.drew ?_ | with_reducible assumption))⟩
end Go.Proofs.Ytlbbgocggifjaaa
