/- The contracts of package vert. Conditions: none beyond what each says. -/
import Derived.Test.YtmafieomlhpdeaaVert
namespace Go.Proofs.Ytmafieomlhpdeaa
open Go.RowKit

set_option maxHeartbeats 1000000 in
theorem vby_any (a : Option Addr) (cap : Nat) (L : List ByteArray) (pl pc n want : Int) (up : Bool) (w : World) (hL : LinesAt w a L) (hn2 : n ≤ 9223372036854775807) :
    Calls Try.prog 65 #[.slice a L.length cap, .agg #[.int .i64 pl, .int .i64 pc], .int .i64 n, .int .i64 want, .bool up] w fun e w' =>
      e = .returned (movV (vertP L pl pc n want up)) ∧ Below w.heap.size w w' := by
  have hn := hL.2.1
  by_cases hc : plcB L pl pc = true ∧ 1 ≤ n ∧ vertI L pl n up = true
  · obtain ⟨t, ht⟩ : ∃ t, vertT pl n up = t := ⟨_, rfl⟩
    have hr := lineP_yes (L := L) (pc := pc) ⟨hc.1, by omega, hc.2.2⟩ ht
    have hti := vertT_in hc
    have hy := vertP_yes (want := want) hc ht
    rw [ht] at hti
    obtain ⟨ht0, ht1⟩ := hti
    have hn1 := hc.2.1
    obtain ⟨b, off, s, rfl, hb, hcell, hs, HS⟩ := line_facts hL ht0 ht1
    rw [szI_eq HS.out] at hy
    have HY := Lib.hid hy
    have HR := Lib.hid hr
    clear hy hr hc ht
    rcases (by omega : want < 0 ∨ (0 ≤ want ∧ want ≤ 1073741824) ∨ 1073741824 < want) with k1 | ⟨k1, k2⟩ | k1
    all_goals (
      go_enter Try.func65, Try.ntmps65
      go_wp2_with (go_at_call 77; refine (vline_any _ _ L _ _ _ _ _ (by (repeat (first | assumption | refine LinesAt.ovr ?_ _ | refine LinesAt.alloc ?_ _ | refine LinesAt.drewN ?_ _ | refine LinesAt.drew ?_))) (by omega)).mono ?_; rw [HR.out]; rintro e w1 ⟨rfl, hbl⟩; obtain ⟨x, rfl⟩ := ovr_of_below hbl; clear hbl)
      all_goals (simp [bodyPost, results, Try.results65, go_sem])
      all_goals (rw [HY.out]; refine ⟨?_, by (repeat (first | exact Below.refl _ _ | refine Below.alloc ?_ (by first | exact Nat.le_refl _ | (simp; done) | (simp; omega)) _ | refine below_ovr_of ?_ | refine drew_below ?_ _ | refine Below.drew ?_ | refine Below.setCell ?_ (by first | exact Nat.le_refl _ | (simp; done) | (simp; omega)) _ | assumption))⟩; simp only [clampW, Int.max_def, Int.min_def]; simp only [true_and, and_true]; try omega))
  · have HY := Lib.hid (vertP_no (want := want) hc)
    by_cases h1 : 1 ≤ n
    · obtain ⟨t, hr⟩ := lineP_out (L := L) (pl := pl) (pc := pc) (n := n) (up := up) (fun h => hc ⟨h.1, h1, h.2.2⟩)
      have HR := Lib.hid hr
      clear hr hc
      go_enter Try.func65, Try.ntmps65
      go_wp2_with (go_at_call 77; refine (vline_any _ _ L _ _ _ _ _ (by (repeat (first | assumption | refine LinesAt.ovr ?_ _ | refine LinesAt.alloc ?_ _ | refine LinesAt.drewN ?_ _ | refine LinesAt.drew ?_))) (by omega)).mono ?_; rw [HR.out]; rintro e w1 ⟨rfl, hbl⟩; obtain ⟨x, rfl⟩ := ovr_of_below hbl; clear hbl)
      refine bodyPost_ret (v := movV noMov) (by simp [results, Try.results65, go_sem, noMov]) rfl ⟨by rw [HY.out], by (repeat (first | exact Below.refl _ _ | refine Below.alloc ?_ (by first | exact Nat.le_refl _ | (simp; done) | (simp; omega)) _ | refine below_ovr_of ?_ | refine drew_below ?_ _ | refine Below.drew ?_ | refine Below.setCell ?_ (by first | exact Nat.le_refl _ | (simp; done) | (simp; omega)) _ | assumption))⟩
    · obtain ⟨⟨t, ok⟩, hr⟩ : ∃ r, lineP L pl pc n up = r := ⟨_, rfl⟩
      have h1' : n < 1 := by omega
      have HR := Lib.hid hr
      clear hr hc h1
      cases ok
      all_goals (
        go_enter Try.func65, Try.ntmps65
        go_wp2_with (go_at_call 77; refine (vline_any _ _ L _ _ _ _ _ (by (repeat (first | assumption | refine LinesAt.ovr ?_ _ | refine LinesAt.alloc ?_ _ | refine LinesAt.drewN ?_ _ | refine LinesAt.drew ?_))) (by omega)).mono ?_; rw [HR.out]; rintro e w1 ⟨rfl, hbl⟩; obtain ⟨x, rfl⟩ := ovr_of_below hbl; clear hbl)
        refine bodyPost_ret (v := movV noMov) (by simp [results, Try.results65, go_sem, noMov]) rfl ⟨by rw [HY.out], by (repeat (first | exact Below.refl _ _ | refine Below.alloc ?_ (by first | exact Nat.le_refl _ | (simp; done) | (simp; omega)) _ | refine below_ovr_of ?_ | refine drew_below ?_ _ | refine Below.drew ?_ | refine Below.setCell ?_ (by first | exact Nat.le_refl _ | (simp; done) | (simp; omega)) _ | assumption))⟩)

set_option maxHeartbeats 1000000 in
theorem vdown_any (a : Option Addr) (cap : Nat) (L : List ByteArray) (pl pc n want : Int) (w : World) (hL : LinesAt w a L) (hn2 : n ≤ 9223372036854775807) :
    Calls Try.prog 30 #[.slice a L.length cap, .agg #[.int .i64 pl, .int .i64 pc], .int .i64 n, .int .i64 want] w fun e w' =>
      e = .returned (movV (vertP L pl pc n want false)) ∧ Below w.heap.size w w' := by
  obtain ⟨⟨⟨r1, r2, r3, r4, r5⟩, ok⟩, hr⟩ : ∃ r, vertP L pl pc n want false = r := ⟨_, rfl⟩
  have HR := Lib.hid hr
  clear hr
  go_enter Try.func30, Try.ntmps30
  go_wp2_with (go_at_call 65; refine (vby_any _ _ L _ _ _ _ _ _ (by (repeat (first | assumption | refine LinesAt.ovr ?_ _ | refine LinesAt.alloc ?_ _ | refine LinesAt.drewN ?_ _ | refine LinesAt.drew ?_))) (by omega)).mono ?_; rw [HR.out]; rintro e w1 ⟨rfl, hbl⟩; obtain ⟨x, rfl⟩ := ovr_of_below hbl; clear hbl)
  refine bodyPost_ret (v := movV ((r1, r2, r3, r4, r5), ok)) (by simp [results, Try.results30, go_sem]) rfl ⟨by rw [HR.out], by (repeat (first | exact Below.refl _ _ | refine Below.alloc ?_ (by first | exact Nat.le_refl _ | (simp; done) | (simp; omega)) _ | refine below_ovr_of ?_ | refine drew_below ?_ _ | refine Below.drew ?_ | refine Below.setCell ?_ (by first | exact Nat.le_refl _ | (simp; done) | (simp; omega)) _ | assumption))⟩
set_option maxHeartbeats 1000000 in
theorem vup_any (a : Option Addr) (cap : Nat) (L : List ByteArray) (pl pc n want : Int) (w : World) (hL : LinesAt w a L) (hn2 : n ≤ 9223372036854775807) :
    Calls Try.prog 31 #[.slice a L.length cap, .agg #[.int .i64 pl, .int .i64 pc], .int .i64 n, .int .i64 want] w fun e w' =>
      e = .returned (movV (vertP L pl pc n want true)) ∧ Below w.heap.size w w' := by
  obtain ⟨⟨⟨r1, r2, r3, r4, r5⟩, ok⟩, hr⟩ : ∃ r, vertP L pl pc n want true = r := ⟨_, rfl⟩
  have HR := Lib.hid hr
  clear hr
  go_enter Try.func31, Try.ntmps31
  go_wp2_with (go_at_call 65; refine (vby_any _ _ L _ _ _ _ _ _ (by (repeat (first | assumption | refine LinesAt.ovr ?_ _ | refine LinesAt.alloc ?_ _ | refine LinesAt.drewN ?_ _ | refine LinesAt.drew ?_))) (by omega)).mono ?_; rw [HR.out]; rintro e w1 ⟨rfl, hbl⟩; obtain ⟨x, rfl⟩ := ovr_of_below hbl; clear hbl)
  refine bodyPost_ret (v := movV ((r1, r2, r3, r4, r5), ok)) (by simp [results, Try.results31, go_sem]) rfl ⟨by rw [HR.out], by (repeat (first | exact Below.refl _ _ | refine Below.alloc ?_ (by first | exact Nat.le_refl _ | (simp; done) | (simp; omega)) _ | refine below_ovr_of ?_ | refine drew_below ?_ _ | refine Below.drew ?_ | refine Below.setCell ?_ (by first | exact Nat.le_refl _ | (simp; done) | (simp; omega)) _ | assumption))⟩

set_option maxHeartbeats 1000000 in
theorem vfirst_any (a : Option Addr) (cap : Nat) (L : List ByteArray) (t : Int) (w : World) (hL : LinesAt w a L) (ht0 : 0 ≤ t) (ht1 : t < L.length) :
    Calls Try.prog 56 #[.slice a L.length cap, .int .i64 t] w fun e w' => e = .returned (.agg #[.int .i64 t, .int .i64 (fsI L t), .int .i64 2, .bool false, .int .i64 (-1)]) ∧ Below w.heap.size w w' := by
  have hn := hL.2.1
  obtain ⟨b, off, s, rfl, hb, hcell, hs, HS⟩ := line_facts hL ht0 ht1
  have HF := Lib.hid (fsI_eq HS.out)
  go_enter Try.func56, Try.ntmps56
  go_wp2_with (go_at_call 76; refine (first_any _ _ (by omega)).mono ?_; rintro e w1 ⟨rfl, rfl⟩)
  refine bodyPost_ret (v := .agg #[.int .i64 t, .int .i64 (firstL s.data.toList), .int .i64 2, .bool false, .int .i64 (-1)]) (by simp [results, Try.results56, go_sem]) rfl ⟨by rw [HF.out], by (repeat (first | exact Below.refl _ _ | refine Below.alloc ?_ (by first | exact Nat.le_refl _ | (simp; done) | (simp; omega)) _ | refine below_ovr_of ?_ | refine drew_below ?_ _ | refine Below.drew ?_ | refine Below.setCell ?_ (by first | exact Nat.le_refl _ | (simp; done) | (simp; omega)) _ | assumption))⟩

set_option maxHeartbeats 1000000 in
theorem vfirstBy_any (a : Option Addr) (cap : Nat) (L : List ByteArray) (pl pc n : Int) (up : Bool) (w : World) (hL : LinesAt w a L) (hn2 : n ≤ 9223372036854775807) :
    Calls Try.prog 75 #[.slice a L.length cap, .agg #[.int .i64 pl, .int .i64 pc], .int .i64 n, .bool up] w fun e w' =>
      e = .returned (movV (fbP L pl pc n up)) ∧ Below w.heap.size w w' := by
  by_cases hc : plcB L pl pc = true ∧ 0 ≤ n ∧ vertI L pl n up = true
  · obtain ⟨t, ht⟩ : ∃ t, vertT pl n up = t := ⟨_, rfl⟩
    have HR := Lib.hid (lineP_yes hc ht)
    have HY := Lib.hid (fbP_yes hc ht)
    have hti := vertT_in' hc
    rw [ht] at hti
    obtain ⟨ht0, ht1⟩ := hti
    clear hc ht
    go_enter Try.func75, Try.ntmps75
    go_wp2_with (first | (go_at_call 77; refine (vline_any _ _ L _ _ _ _ _ (by (repeat (first | assumption | refine LinesAt.ovr ?_ _ | refine LinesAt.alloc ?_ _ | refine LinesAt.drewN ?_ _ | refine LinesAt.drew ?_))) (by omega)).mono ?_; rw [HR.out]; rintro e w1 ⟨rfl, hbl⟩; obtain ⟨x, rfl⟩ := ovr_of_below hbl; clear hbl) | (go_at_call 56; refine (vfirst_any _ _ L _ _ (by (repeat (first | assumption | refine LinesAt.ovr ?_ _ | refine LinesAt.alloc ?_ _ | refine LinesAt.drewN ?_ _ | refine LinesAt.drew ?_))) (by omega) (by omega)).mono ?_; rintro e w1 ⟨rfl, hbl⟩; obtain ⟨x, rfl⟩ := ovr_of_below hbl; clear hbl))
    refine bodyPost_ret (v := movV ((t, fsI L t, 2, false, -1), true)) (by simp [results, Try.results75, go_sem]) rfl ⟨by rw [HY.out]; rfl, by (repeat (first | exact Below.refl _ _ | refine Below.alloc ?_ (by first | exact Nat.le_refl _ | (simp; done) | (simp; omega)) _ | refine below_ovr_of ?_ | refine drew_below ?_ _ | refine Below.drew ?_ | refine Below.setCell ?_ (by first | exact Nat.le_refl _ | (simp; done) | (simp; omega)) _ | assumption))⟩
  · have HY := Lib.hid (fbP_no hc)
    obtain ⟨t, hr⟩ := lineP_out hc
    have HR := Lib.hid hr
    clear hr hc
    go_enter Try.func75, Try.ntmps75
    go_wp2_with (go_at_call 77; refine (vline_any _ _ L _ _ _ _ _ (by (repeat (first | assumption | refine LinesAt.ovr ?_ _ | refine LinesAt.alloc ?_ _ | refine LinesAt.drewN ?_ _ | refine LinesAt.drew ?_))) (by omega)).mono ?_; rw [HR.out]; rintro e w1 ⟨rfl, hbl⟩; obtain ⟨x, rfl⟩ := ovr_of_below hbl; clear hbl)
    refine bodyPost_ret (v := movV noMov) (by simp [results, Try.results75, go_sem, noMov]) rfl ⟨by rw [HY.out], by (repeat (first | exact Below.refl _ _ | refine Below.alloc ?_ (by first | exact Nat.le_refl _ | (simp; done) | (simp; omega)) _ | refine below_ovr_of ?_ | refine drew_below ?_ _ | refine Below.drew ?_ | refine Below.setCell ?_ (by first | exact Nat.le_refl _ | (simp; done) | (simp; omega)) _ | assumption))⟩

set_option maxHeartbeats 1000000 in
theorem vplus_any (a : Option Addr) (cap : Nat) (L : List ByteArray) (pl pc n : Int) (w : World) (hL : LinesAt w a L) (hn2 : n ≤ 9223372036854775807) :
    Calls Try.prog 40 #[.slice a L.length cap, .agg #[.int .i64 pl, .int .i64 pc], .int .i64 n] w fun e w' =>
      e = .returned (movV (plusP L pl pc n)) ∧ Below w.heap.size w w' := by
  by_cases h1 : 1 ≤ n
  · have HP : Hid (plusP L pl pc n = fbP L pl pc n false) := Lib.hid (by rw [plusP, if_pos h1])
    obtain ⟨⟨⟨r1, r2, r3, r4, r5⟩, ok⟩, hr⟩ : ∃ r, fbP L pl pc n false = r := ⟨_, rfl⟩
    have HR := Lib.hid hr
    clear hr
    go_enter Try.func40, Try.ntmps40
    go_wp2_with (go_at_call 75; refine (vfirstBy_any _ _ L _ _ _ _ _ (by (repeat (first | assumption | refine LinesAt.ovr ?_ _ | refine LinesAt.alloc ?_ _ | refine LinesAt.drewN ?_ _ | refine LinesAt.drew ?_))) (by omega)).mono ?_; rw [HR.out]; rintro e w1 ⟨rfl, hbl⟩; obtain ⟨x, rfl⟩ := ovr_of_below hbl; clear hbl)
    refine bodyPost_ret (v := movV ((r1, r2, r3, r4, r5), ok)) (by simp [results, Try.results40, go_sem]) rfl ⟨by rw [HP.out, HR.out], by (repeat (first | exact Below.refl _ _ | refine Below.alloc ?_ (by first | exact Nat.le_refl _ | (simp; done) | (simp; omega)) _ | refine below_ovr_of ?_ | refine drew_below ?_ _ | refine Below.drew ?_ | refine Below.setCell ?_ (by first | exact Nat.le_refl _ | (simp; done) | (simp; omega)) _ | assumption))⟩
  · have HP : Hid (plusP L pl pc n = noMov) := Lib.hid (by rw [plusP, if_neg h1])
    have h1' : n < 1 := by omega
    clear h1
    go_enter Try.func40, Try.ntmps40
    go_wp2
    refine bodyPost_ret (v := movV noMov) (by simp [results, Try.results40, go_sem, noMov]) rfl ⟨by rw [HP.out], by (repeat (first | exact Below.refl _ _ | refine Below.alloc ?_ (by first | exact Nat.le_refl _ | (simp; done) | (simp; omega)) _ | refine below_ovr_of ?_ | refine drew_below ?_ _ | refine Below.drew ?_ | refine Below.setCell ?_ (by first | exact Nat.le_refl _ | (simp; done) | (simp; omega)) _ | assumption))⟩
set_option maxHeartbeats 1000000 in
theorem vminus_any (a : Option Addr) (cap : Nat) (L : List ByteArray) (pl pc n : Int) (w : World) (hL : LinesAt w a L) (hn2 : n ≤ 9223372036854775807) :
    Calls Try.prog 42 #[.slice a L.length cap, .agg #[.int .i64 pl, .int .i64 pc], .int .i64 n] w fun e w' =>
      e = .returned (movV (minusP L pl pc n)) ∧ Below w.heap.size w w' := by
  by_cases h1 : 1 ≤ n
  · have HP : Hid (minusP L pl pc n = fbP L pl pc n true) := Lib.hid (by rw [minusP, if_pos h1])
    obtain ⟨⟨⟨r1, r2, r3, r4, r5⟩, ok⟩, hr⟩ : ∃ r, fbP L pl pc n true = r := ⟨_, rfl⟩
    have HR := Lib.hid hr
    clear hr
    go_enter Try.func42, Try.ntmps42
    go_wp2_with (go_at_call 75; refine (vfirstBy_any _ _ L _ _ _ _ _ (by (repeat (first | assumption | refine LinesAt.ovr ?_ _ | refine LinesAt.alloc ?_ _ | refine LinesAt.drewN ?_ _ | refine LinesAt.drew ?_))) (by omega)).mono ?_; rw [HR.out]; rintro e w1 ⟨rfl, hbl⟩; obtain ⟨x, rfl⟩ := ovr_of_below hbl; clear hbl)
    refine bodyPost_ret (v := movV ((r1, r2, r3, r4, r5), ok)) (by simp [results, Try.results42, go_sem]) rfl ⟨by rw [HP.out, HR.out], by (repeat (first | exact Below.refl _ _ | refine Below.alloc ?_ (by first | exact Nat.le_refl _ | (simp; done) | (simp; omega)) _ | refine below_ovr_of ?_ | refine drew_below ?_ _ | refine Below.drew ?_ | refine Below.setCell ?_ (by first | exact Nat.le_refl _ | (simp; done) | (simp; omega)) _ | assumption))⟩
  · have HP : Hid (minusP L pl pc n = noMov) := Lib.hid (by rw [minusP, if_neg h1])
    have h1' : n < 1 := by omega
    clear h1
    go_enter Try.func42, Try.ntmps42
    go_wp2
    refine bodyPost_ret (v := movV noMov) (by simp [results, Try.results42, go_sem, noMov]) rfl ⟨by rw [HP.out], by (repeat (first | exact Below.refl _ _ | refine Below.alloc ?_ (by first | exact Nat.le_refl _ | (simp; done) | (simp; omega)) _ | refine below_ovr_of ?_ | refine drew_below ?_ _ | refine Below.drew ?_ | refine Below.setCell ?_ (by first | exact Nat.le_refl _ | (simp; done) | (simp; omega)) _ | assumption))⟩
set_option maxHeartbeats 1000000 in
theorem vunder_any (a : Option Addr) (cap : Nat) (L : List ByteArray) (pl pc n : Int) (w : World) (hL : LinesAt w a L) (hn2 : n ≤ 9223372036854775807) :
    Calls Try.prog 44 #[.slice a L.length cap, .agg #[.int .i64 pl, .int .i64 pc], .int .i64 n] w fun e w' =>
      e = .returned (movV (underP L pl pc n)) ∧ Below w.heap.size w w' := by
  by_cases h1 : 1 ≤ n
  · have HP : Hid (underP L pl pc n = fbP L pl pc (n - 1) false) := Lib.hid (by rw [underP, if_pos h1])
    obtain ⟨⟨⟨r1, r2, r3, r4, r5⟩, ok⟩, hr⟩ : ∃ r, fbP L pl pc (n - 1) false = r := ⟨_, rfl⟩
    have HR := Lib.hid hr
    clear hr
    go_enter Try.func44, Try.ntmps44
    go_wp2_with (go_at_call 75; refine (vfirstBy_any _ _ L _ _ _ _ _ (by (repeat (first | assumption | refine LinesAt.ovr ?_ _ | refine LinesAt.alloc ?_ _ | refine LinesAt.drewN ?_ _ | refine LinesAt.drew ?_))) (by omega)).mono ?_; rw [HR.out]; rintro e w1 ⟨rfl, hbl⟩; obtain ⟨x, rfl⟩ := ovr_of_below hbl; clear hbl)
    refine bodyPost_ret (v := movV ((r1, r2, r3, r4, r5), ok)) (by simp [results, Try.results44, go_sem]) rfl ⟨by rw [HP.out, HR.out], by (repeat (first | exact Below.refl _ _ | refine Below.alloc ?_ (by first | exact Nat.le_refl _ | (simp; done) | (simp; omega)) _ | refine below_ovr_of ?_ | refine drew_below ?_ _ | refine Below.drew ?_ | refine Below.setCell ?_ (by first | exact Nat.le_refl _ | (simp; done) | (simp; omega)) _ | assumption))⟩
  · have HP : Hid (underP L pl pc n = noMov) := Lib.hid (by rw [underP, if_neg h1])
    have h1' : n < 1 := by omega
    clear h1
    go_enter Try.func44, Try.ntmps44
    go_wp2
    refine bodyPost_ret (v := movV noMov) (by simp [results, Try.results44, go_sem, noMov]) rfl ⟨by rw [HP.out], by (repeat (first | exact Below.refl _ _ | refine Below.alloc ?_ (by first | exact Nat.le_refl _ | (simp; done) | (simp; omega)) _ | refine below_ovr_of ?_ | refine drew_below ?_ _ | refine Below.drew ?_ | refine Below.setCell ?_ (by first | exact Nat.le_refl _ | (simp; done) | (simp; omega)) _ | assumption))⟩

set_option maxHeartbeats 1000000 in
theorem vgoto_any (a : Option Addr) (cap : Nat) (L : List ByteArray) (pl pc n : Int) (w : World) (hL : LinesAt w a L) :
    Calls Try.prog 21 #[.slice a L.length cap, .agg #[.int .i64 pl, .int .i64 pc], .int .i64 n] w fun e w' =>
      e = .returned (movV (gotoP L pl pc n)) ∧ Below w.heap.size w w' := by
  have hn := hL.2.1
  cases hp : plcB L pl pc with
  | false =>
    have HP : Hid (gotoP L pl pc n = noMov) := Lib.hid (by rw [gotoP, if_neg (by rw [hp]; simp)])
    go_enter Try.func21, Try.ntmps21
    go_wp2_with (go_at_call 55; refine (place_any _ _ L _ _ _ (by (repeat (first | assumption | refine LinesAt.ovr ?_ _ | refine LinesAt.alloc ?_ _ | refine LinesAt.drewN ?_ _ | refine LinesAt.drew ?_)))).mono ?_; rintro e w1 ⟨rfl, hbl⟩; obtain ⟨x, rfl⟩ := ovr_of_below hbl; clear hbl)
    all_goals (refine bodyPost_ret (v := movV noMov) (by simp [results, Try.results21, go_sem, noMov]) rfl ⟨by rw [HP.out], by (repeat (first | exact Below.refl _ _ | refine Below.alloc ?_ (by first | exact Nat.le_refl _ | (simp; done) | (simp; omega)) _ | refine below_ovr_of ?_ | refine drew_below ?_ _ | refine Below.drew ?_ | refine Below.setCell ?_ (by first | exact Nat.le_refl _ | (simp; done) | (simp; omega)) _ | assumption))⟩)
  | true =>
    by_cases h1 : 1 ≤ n ∧ n ≤ L.length
    · have HP : Hid (gotoP L pl pc n = firstM L (n - 1) true) := Lib.hid (by rw [gotoP, if_pos ⟨hp, h1.1⟩, lineM_yes ⟨by omega, by omega⟩])
      obtain ⟨h1, h2⟩ := h1
      go_enter Try.func21, Try.ntmps21
      go_wp2_with (first | (go_at_call 55; refine (place_any _ _ L _ _ _ (by (repeat (first | assumption | refine LinesAt.ovr ?_ _ | refine LinesAt.alloc ?_ _ | refine LinesAt.drewN ?_ _ | refine LinesAt.drew ?_)))).mono ?_; rintro e w1 ⟨rfl, hbl⟩; obtain ⟨x, rfl⟩ := ovr_of_below hbl; clear hbl) | (go_at_call 56; refine (vfirst_any _ _ L _ _ (by (repeat (first | assumption | refine LinesAt.ovr ?_ _ | refine LinesAt.alloc ?_ _ | refine LinesAt.drewN ?_ _ | refine LinesAt.drew ?_))) (by omega) (by omega)).mono ?_; rintro e w1 ⟨rfl, hbl⟩; obtain ⟨x, rfl⟩ := ovr_of_below hbl; clear hbl))
      refine bodyPost_ret (v := movV (firstM L (n - 1) true)) (by simp [results, Try.results21, go_sem, firstM]) rfl ⟨by rw [HP.out], by (repeat (first | exact Below.refl _ _ | refine Below.alloc ?_ (by first | exact Nat.le_refl _ | (simp; done) | (simp; omega)) _ | refine below_ovr_of ?_ | refine drew_below ?_ _ | refine Below.drew ?_ | refine Below.setCell ?_ (by first | exact Nat.le_refl _ | (simp; done) | (simp; omega)) _ | assumption))⟩
    · have HP : Hid (gotoP L pl pc n = noMov) := Lib.hid (by
        rw [gotoP]
        by_cases h : 1 ≤ n
        · rw [if_pos ⟨hp, h⟩, lineM_no (by omega)]
        · rw [if_neg (fun e => h e.2)])
      rcases (by omega : n < 1 ∨ (1 ≤ n ∧ (L.length : Int) < n)) with h2 | ⟨h2, h3⟩
      all_goals (
        clear h1
        go_enter Try.func21, Try.ntmps21
        go_wp2_with (go_at_call 55; refine (place_any _ _ L _ _ _ (by (repeat (first | assumption | refine LinesAt.ovr ?_ _ | refine LinesAt.alloc ?_ _ | refine LinesAt.drewN ?_ _ | refine LinesAt.drew ?_)))).mono ?_; rintro e w1 ⟨rfl, hbl⟩; obtain ⟨x, rfl⟩ := ovr_of_below hbl; clear hbl)
        refine bodyPost_ret (v := movV noMov) (by simp [results, Try.results21, go_sem, noMov]) rfl ⟨by rw [HP.out], by (repeat (first | exact Below.refl _ _ | refine Below.alloc ?_ (by first | exact Nat.le_refl _ | (simp; done) | (simp; omega)) _ | refine below_ovr_of ?_ | refine drew_below ?_ _ | refine Below.drew ?_ | refine Below.setCell ?_ (by first | exact Nat.le_refl _ | (simp; done) | (simp; omega)) _ | assumption))⟩)
end Go.Proofs.Ytmafieomlhpdeaa
