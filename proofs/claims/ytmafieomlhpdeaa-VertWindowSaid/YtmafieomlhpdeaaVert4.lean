/- The contracts of the references' motions by lines. Conditions: none beyond what each says. -/
import Derived.Test.YtmafieomlhpdeaaVert
import Derived.Deep.RegionWith
import Derived.IntWalk
namespace Go.Proofs.Ytmafieomlhpdeaa
open Go.RowKit

set_option maxHeartbeats 1000000 in
theorem rmay_any (a : Option Addr) (cap : Nat) (L : List ByteArray) (pl pc n : Int) (w : World) (hL : LinesAt w a L) :
    Calls Try.prog 57 #[.slice a L.length cap, .agg #[.int .i64 pl, .int .i64 pc], .int .i64 n] w fun e w' =>
      e = .returned (.bool (plcB L pl pc && decide (1 ≤ n))) ∧ Below w.heap.size w w' := by
  cases hp : plcB L pl pc with
  | false =>
    go_enter Try.func57, Try.ntmps57
    go_wp2_with (go_at_call 68; refine (rplace_any _ _ L _ _ _ (by (repeat (first | assumption | refine LinesAt.ovr ?_ _ | refine LinesAt.alloc ?_ _ | refine LinesAt.drewN ?_ _ | refine LinesAt.drew ?_)))).mono ?_; rintro e w1 ⟨rfl, hbl⟩; obtain ⟨x, rfl⟩ := ovr_of_below hbl; clear hbl)
    go_ret
    exact ⟨rfl, by (repeat (first | exact Below.refl _ _ | refine Below.alloc ?_ (by first | exact Nat.le_refl _ | (simp; done) | (simp; omega)) _ | refine below_ovr_of ?_ | refine drew_below ?_ _ | refine Below.drew ?_ | refine Below.setCell ?_ (by first | exact Nat.le_refl _ | (simp; done) | (simp; omega)) _ | assumption))⟩
  | true =>
    go_enter Try.func57, Try.ntmps57
    go_wp2_with (go_at_call 68; refine (rplace_any _ _ L _ _ _ (by (repeat (first | assumption | refine LinesAt.ovr ?_ _ | refine LinesAt.alloc ?_ _ | refine LinesAt.drewN ?_ _ | refine LinesAt.drew ?_)))).mono ?_; rintro e w1 ⟨rfl, hbl⟩; obtain ⟨x, rfl⟩ := ovr_of_below hbl; clear hbl)
    go_ret
    exact ⟨ret_bool (by simp), by (repeat (first | exact Below.refl _ _ | refine Below.alloc ?_ (by first | exact Nat.le_refl _ | (simp; done) | (simp; omega)) _ | refine below_ovr_of ?_ | refine drew_below ?_ _ | refine Below.drew ?_ | refine Below.setCell ?_ (by first | exact Nat.le_refl _ | (simp; done) | (simp; omega)) _ | assumption))⟩
theorem rmay_at (a : Option Addr) (cap : Nat) (L : List ByteArray) (pl pc n : Int) (w : World) (hL : LinesAt w a L) {q : Bool} (h : Hid ((plcB L pl pc && decide (1 ≤ n)) = q)) :
    Calls Try.prog 57 #[.slice a L.length cap, .agg #[.int .i64 pl, .int .i64 pc], .int .i64 n] w fun e w' => e = .returned (.bool q) ∧ Below w.heap.size w w' := by
  have := rmay_any a cap L pl pc n w hL
  rw [h.out] at this
  exact this
theorem rcapped_any (n : Int) (w : World) : Calls Try.prog 73 #[.int .i64 n] w fun e w' => e = .returned (.int .i64 (min n 1073741824)) ∧ w = w' := by
  go_enter Try.func73, Try.ntmps73
  go_wp2
  all_goals (go_ret; exact ⟨ret_int (by omega), rfl⟩)
theorem rcapped_at (n m : Int) (h : Hid (min n 1073741824 = m)) (w : World) : Calls Try.prog 73 #[.int .i64 n] w fun e w' => e = .returned (.int .i64 m) ∧ w = w' := by
  have := rcapped_any n w
  rw [h.out] at this
  exact this
theorem rlast_any (s : ByteArray) (w : World) (hs : s.size ≤ 140737488351232) : Calls Try.prog 74 #[.string s] w fun e w' => e = .returned (.int .i64 (max ((s.size : Int) - 1) 0)) ∧ w = w' := by
  go_enter Try.func74, Try.ntmps74
  go_wp2
  all_goals (go_ret; exact ⟨ret_int (by omega), rfl⟩)
set_option maxHeartbeats 1000000 in
theorem rnone_any (w : World) : Calls Try.prog 58 #[] w fun e w' => e = .returned (movV noMov) ∧ Below w.heap.size w w' := by
  go_enter Try.func58, Try.ntmps58
  go_wp2
  refine bodyPost_ret (v := movV noMov) (by simp [results, Try.results58, go_sem, noMov]) rfl ⟨rfl, by (repeat (first | exact Below.refl _ _ | refine Below.alloc ?_ (by first | exact Nat.le_refl _ | (simp; done) | (simp; omega)) _ | refine below_ovr_of ?_ | refine drew_below ?_ _ | refine Below.drew ?_ | refine Below.setCell ?_ (by first | exact Nat.le_refl _ | (simp; done) | (simp; omega)) _ | assumption))⟩

set_option maxHeartbeats 1000000 in
theorem rline_any (a : Option Addr) (cap : Nat) (L : List ByteArray) (t : Int) (j : Bool) (w : World) (hL : LinesAt w a L) :
    Calls Try.prog 59 #[.slice a L.length cap, .int .i64 t, .bool j] w fun e w' => e = .returned (movV (lineM L t j)) ∧ Below w.heap.size w w' := by
  have hn := hL.2.1
  have HN : Hid (noMov = ((0, 0, 0, false, 0), false)) := Lib.hid rfl
  by_cases hc : 0 ≤ t ∧ t < L.length
  · have HP := Lib.hid (lineM_yes (j := j) hc)
    obtain ⟨ht0, ht1⟩ := hc
    obtain ⟨b, off, s, rfl, hb, hcell, hs, HS⟩ := line_facts hL ht0 ht1
    have HF := Lib.hid (fsI_eq HS.out)
    go_enter Try.func59, Try.ntmps59
    go_wp2_with (go_at_call 22; refine (rfirst_any _ _ (by omega)).mono ?_; rintro e w1 ⟨rfl, rfl⟩)
    refine bodyPost_ret (v := movV ((t, (firstL s.data.toList : Int), 2, j, -1), true)) (by simp [results, Try.results59, go_sem]) rfl ⟨by rw [HP.out, firstM, HF.out], by (repeat (first | exact Below.refl _ _ | refine Below.alloc ?_ (by first | exact Nat.le_refl _ | (simp; done) | (simp; omega)) _ | refine below_ovr_of ?_ | refine drew_below ?_ _ | refine Below.drew ?_ | refine Below.setCell ?_ (by first | exact Nat.le_refl _ | (simp; done) | (simp; omega)) _ | assumption))⟩
  · have HP := Lib.hid (lineM_no (j := j) hc)
    rcases (by omega : t < 0 ∨ (0 ≤ t ∧ (L.length : Int) ≤ t)) with t0 | ⟨t0, t1⟩
    all_goals (
      clear hc
      go_enter Try.func59, Try.ntmps59
      go_wp2_with (go_at_call 58; refine (rnone_any _).mono ?_; rintro e w1 ⟨rfl, hbl⟩; obtain ⟨x, rfl⟩ := ovr_of_below hbl; clear hbl)
      refine bodyPost_ret (v := movV noMov) (by simp [results, Try.results59, go_sem, noMov]) rfl ⟨by rw [HP.out], by (repeat (first | exact Below.refl _ _ | refine Below.alloc ?_ (by first | exact Nat.le_refl _ | (simp; done) | (simp; omega)) _ | refine below_ovr_of ?_ | refine drew_below ?_ _ | refine Below.drew ?_ | refine Below.setCell ?_ (by first | exact Nat.le_refl _ | (simp; done) | (simp; omega)) _ | assumption))⟩)

set_option maxHeartbeats 1000000 in
theorem rplus_any (a : Option Addr) (cap : Nat) (L : List ByteArray) (pl pc n : Int) (w : World) (hL : LinesAt w a L) (hlen : L.length ≤ 1000000) :
    Calls Try.prog 41 #[.slice a L.length cap, .agg #[.int .i64 pl, .int .i64 pc], .int .i64 n] w fun e w' =>
      e = .returned (movV (plusP L pl pc n)) ∧ Below w.heap.size w w' := by
  cases hp : plcB L pl pc with
  | false =>
    have HP : Hid (plusP L pl pc n = noMov) := Lib.hid (by
      rw [plusP]
      by_cases h : 1 ≤ n
      · rw [if_pos h, fbP_no (by rw [hp]; simp)]
      · rw [if_neg h])
    go_enter Try.func41, Try.ntmps41
    go_wp2_with (first | (go_at_call 57; refine (rmay_any _ _ L _ _ _ _ (by (repeat (first | assumption | refine LinesAt.ovr ?_ _ | refine LinesAt.alloc ?_ _ | refine LinesAt.drewN ?_ _ | refine LinesAt.drew ?_)))).mono ?_; rintro e w1 ⟨rfl, hbl⟩; obtain ⟨x, rfl⟩ := ovr_of_below hbl; clear hbl) | (go_at_call 58; refine (rnone_any _).mono ?_; rintro e w1 ⟨rfl, hbl⟩; obtain ⟨x, rfl⟩ := ovr_of_below hbl; clear hbl))
    refine bodyPost_ret (v := movV noMov) (by simp [results, Try.results41, go_sem, noMov]) rfl ⟨by rw [HP.out], by (repeat (first | exact Below.refl _ _ | refine Below.alloc ?_ (by first | exact Nat.le_refl _ | (simp; done) | (simp; omega)) _ | refine below_ovr_of ?_ | refine drew_below ?_ _ | refine Below.drew ?_ | refine Below.setCell ?_ (by first | exact Nat.le_refl _ | (simp; done) | (simp; omega)) _ | assumption))⟩
  | true =>
    obtain ⟨p1, p2, p3, p4⟩ := plcB_spec hp
    by_cases h1 : 1 ≤ n
    · have HP : Hid (plusP L pl pc n = lineM L (pl + min n 1073741824) false) := Lib.hid (plusP_line hp h1 hlen)
      obtain ⟨⟨⟨r1, r2, r3, r4, r5⟩, ok⟩, hr⟩ : ∃ r, lineM L (pl + min n 1073741824) false = r := ⟨_, rfl⟩
      have HR := Lib.hid hr
      clear hr
      obtain ⟨m, hm⟩ : ∃ m, min n 1073741824 = m := ⟨_, rfl⟩
      have m1 : 1 ≤ m := by omega
      have m2 : m ≤ 1073741824 := by omega
      rw [hm] at HR HP
      have HM := Lib.hid hm
      clear hm
      have hw1 : IntKind.i64.wrap (pl + m) = (pl + m) := IntWalk.i64_in _ (by omega)
      have hw2 : IntKind.i64.wrap (pl + m) = (pl + m) := IntWalk.i64_in _ (by omega)
      go_enter Try.func41, Try.ntmps41
      go_wp2_with (go_at_call 57; refine (rmay_any _ _ L _ _ _ _ (by (repeat (first | assumption | refine LinesAt.ovr ?_ _ | refine LinesAt.alloc ?_ _ | refine LinesAt.drewN ?_ _ | refine LinesAt.drew ?_)))).mono ?_; rintro e w1 ⟨rfl, hbl⟩; obtain ⟨x, rfl⟩ := ovr_of_below hbl; clear hbl)
      go_region_with (first | (go_at_call 73; refine (rcapped_any _ _).mono ?_; rw [HM.out]; rintro e w1 ⟨rfl, rfl⟩) | (go_at_call 59; refine (rline_any _ _ L _ _ _ (by (repeat (first | assumption | refine LinesAt.ovr ?_ _ | refine LinesAt.alloc ?_ _ | refine LinesAt.drewN ?_ _ | refine LinesAt.drew ?_)))).mono ?_; rw [HR.out]; rintro e w1 ⟨rfl, hbl⟩; obtain ⟨x, rfl⟩ := ovr_of_below hbl; clear hbl))
      all_goals (
        go_wp2
        refine bodyPost_ret (v := movV ((r1, r2, r3, r4, r5), ok)) (by simp [results, Try.results41, go_sem]) rfl ⟨by rw [HP.out, HR.out], by (repeat (first | exact Below.refl _ _ | refine Below.alloc ?_ (by first | exact Nat.le_refl _ | (simp; done) | (simp; omega)) _ | refine below_ovr_of ?_ | refine drew_below ?_ _ | refine Below.drew ?_ | refine Below.setCell ?_ (by first | exact Nat.le_refl _ | (simp; done) | (simp; omega)) _ | assumption))⟩)
    · have HP : Hid (plusP L pl pc n = noMov) := Lib.hid (by rw [plusP, if_neg h1])
      have h1' : decide (1 ≤ n) = false := decide_eq_false h1
      clear h1
      go_enter Try.func41, Try.ntmps41
      go_wp2_with (first | (go_at_call 57; refine (rmay_any _ _ L _ _ _ _ (by (repeat (first | assumption | refine LinesAt.ovr ?_ _ | refine LinesAt.alloc ?_ _ | refine LinesAt.drewN ?_ _ | refine LinesAt.drew ?_)))).mono ?_; rintro e w1 ⟨rfl, hbl⟩; obtain ⟨x, rfl⟩ := ovr_of_below hbl; clear hbl) | (go_at_call 58; refine (rnone_any _).mono ?_; rintro e w1 ⟨rfl, hbl⟩; obtain ⟨x, rfl⟩ := ovr_of_below hbl; clear hbl))
      refine bodyPost_ret (v := movV noMov) (by simp [results, Try.results41, go_sem, noMov]) rfl ⟨by rw [HP.out], by (repeat (first | exact Below.refl _ _ | refine Below.alloc ?_ (by first | exact Nat.le_refl _ | (simp; done) | (simp; omega)) _ | refine below_ovr_of ?_ | refine drew_below ?_ _ | refine Below.drew ?_ | refine Below.setCell ?_ (by first | exact Nat.le_refl _ | (simp; done) | (simp; omega)) _ | assumption))⟩
set_option maxHeartbeats 1000000 in
theorem rminus_any (a : Option Addr) (cap : Nat) (L : List ByteArray) (pl pc n : Int) (w : World) (hL : LinesAt w a L) (hlen : L.length ≤ 1000000) :
    Calls Try.prog 43 #[.slice a L.length cap, .agg #[.int .i64 pl, .int .i64 pc], .int .i64 n] w fun e w' =>
      e = .returned (movV (minusP L pl pc n)) ∧ Below w.heap.size w w' := by
  cases hp : plcB L pl pc with
  | false =>
    have HP : Hid (minusP L pl pc n = noMov) := Lib.hid (by
      rw [minusP]
      by_cases h : 1 ≤ n
      · rw [if_pos h, fbP_no (by rw [hp]; simp)]
      · rw [if_neg h])
    go_enter Try.func43, Try.ntmps43
    go_wp2_with (first | (go_at_call 57; refine (rmay_any _ _ L _ _ _ _ (by (repeat (first | assumption | refine LinesAt.ovr ?_ _ | refine LinesAt.alloc ?_ _ | refine LinesAt.drewN ?_ _ | refine LinesAt.drew ?_)))).mono ?_; rintro e w1 ⟨rfl, hbl⟩; obtain ⟨x, rfl⟩ := ovr_of_below hbl; clear hbl) | (go_at_call 58; refine (rnone_any _).mono ?_; rintro e w1 ⟨rfl, hbl⟩; obtain ⟨x, rfl⟩ := ovr_of_below hbl; clear hbl))
    refine bodyPost_ret (v := movV noMov) (by simp [results, Try.results43, go_sem, noMov]) rfl ⟨by rw [HP.out], by (repeat (first | exact Below.refl _ _ | refine Below.alloc ?_ (by first | exact Nat.le_refl _ | (simp; done) | (simp; omega)) _ | refine below_ovr_of ?_ | refine drew_below ?_ _ | refine Below.drew ?_ | refine Below.setCell ?_ (by first | exact Nat.le_refl _ | (simp; done) | (simp; omega)) _ | assumption))⟩
  | true =>
    obtain ⟨p1, p2, p3, p4⟩ := plcB_spec hp
    by_cases h1 : 1 ≤ n
    · have HP : Hid (minusP L pl pc n = lineM L (pl - min n 1073741824) false) := Lib.hid (minusP_line hp h1 hlen)
      obtain ⟨⟨⟨r1, r2, r3, r4, r5⟩, ok⟩, hr⟩ : ∃ r, lineM L (pl - min n 1073741824) false = r := ⟨_, rfl⟩
      have HR := Lib.hid hr
      clear hr
      obtain ⟨m, hm⟩ : ∃ m, min n 1073741824 = m := ⟨_, rfl⟩
      have m1 : 1 ≤ m := by omega
      have m2 : m ≤ 1073741824 := by omega
      rw [hm] at HR HP
      have HM := Lib.hid hm
      clear hm
      have hw1 : IntKind.i64.wrap (pl - m) = (pl - m) := IntWalk.i64_in _ (by omega)
      have hw2 : IntKind.i64.wrap (pl - m) = (pl - m) := IntWalk.i64_in _ (by omega)
      go_enter Try.func43, Try.ntmps43
      go_wp2_with (go_at_call 57; refine (rmay_any _ _ L _ _ _ _ (by (repeat (first | assumption | refine LinesAt.ovr ?_ _ | refine LinesAt.alloc ?_ _ | refine LinesAt.drewN ?_ _ | refine LinesAt.drew ?_)))).mono ?_; rintro e w1 ⟨rfl, hbl⟩; obtain ⟨x, rfl⟩ := ovr_of_below hbl; clear hbl)
      go_region_with (first | (go_at_call 73; refine (rcapped_any _ _).mono ?_; rw [HM.out]; rintro e w1 ⟨rfl, rfl⟩) | (go_at_call 59; refine (rline_any _ _ L _ _ _ (by (repeat (first | assumption | refine LinesAt.ovr ?_ _ | refine LinesAt.alloc ?_ _ | refine LinesAt.drewN ?_ _ | refine LinesAt.drew ?_)))).mono ?_; rw [HR.out]; rintro e w1 ⟨rfl, hbl⟩; obtain ⟨x, rfl⟩ := ovr_of_below hbl; clear hbl))
      all_goals (
        go_wp2
        refine bodyPost_ret (v := movV ((r1, r2, r3, r4, r5), ok)) (by simp [results, Try.results43, go_sem]) rfl ⟨by rw [HP.out, HR.out], by (repeat (first | exact Below.refl _ _ | refine Below.alloc ?_ (by first | exact Nat.le_refl _ | (simp; done) | (simp; omega)) _ | refine below_ovr_of ?_ | refine drew_below ?_ _ | refine Below.drew ?_ | refine Below.setCell ?_ (by first | exact Nat.le_refl _ | (simp; done) | (simp; omega)) _ | assumption))⟩)
    · have HP : Hid (minusP L pl pc n = noMov) := Lib.hid (by rw [minusP, if_neg h1])
      have h1' : decide (1 ≤ n) = false := decide_eq_false h1
      clear h1
      go_enter Try.func43, Try.ntmps43
      go_wp2_with (first | (go_at_call 57; refine (rmay_any _ _ L _ _ _ _ (by (repeat (first | assumption | refine LinesAt.ovr ?_ _ | refine LinesAt.alloc ?_ _ | refine LinesAt.drewN ?_ _ | refine LinesAt.drew ?_)))).mono ?_; rintro e w1 ⟨rfl, hbl⟩; obtain ⟨x, rfl⟩ := ovr_of_below hbl; clear hbl) | (go_at_call 58; refine (rnone_any _).mono ?_; rintro e w1 ⟨rfl, hbl⟩; obtain ⟨x, rfl⟩ := ovr_of_below hbl; clear hbl))
      refine bodyPost_ret (v := movV noMov) (by simp [results, Try.results43, go_sem, noMov]) rfl ⟨by rw [HP.out], by (repeat (first | exact Below.refl _ _ | refine Below.alloc ?_ (by first | exact Nat.le_refl _ | (simp; done) | (simp; omega)) _ | refine below_ovr_of ?_ | refine drew_below ?_ _ | refine Below.drew ?_ | refine Below.setCell ?_ (by first | exact Nat.le_refl _ | (simp; done) | (simp; omega)) _ | assumption))⟩
set_option maxHeartbeats 1000000 in
theorem runder_any (a : Option Addr) (cap : Nat) (L : List ByteArray) (pl pc n : Int) (w : World) (hL : LinesAt w a L) (hlen : L.length ≤ 1000000) :
    Calls Try.prog 45 #[.slice a L.length cap, .agg #[.int .i64 pl, .int .i64 pc], .int .i64 n] w fun e w' =>
      e = .returned (movV (underP L pl pc n)) ∧ Below w.heap.size w w' := by
  cases hp : plcB L pl pc with
  | false =>
    have HP : Hid (underP L pl pc n = noMov) := Lib.hid (by
      rw [underP]
      by_cases h : 1 ≤ n
      · rw [if_pos h, fbP_no (by rw [hp]; simp)]
      · rw [if_neg h])
    go_enter Try.func45, Try.ntmps45
    go_wp2_with (first | (go_at_call 57; refine (rmay_any _ _ L _ _ _ _ (by (repeat (first | assumption | refine LinesAt.ovr ?_ _ | refine LinesAt.alloc ?_ _ | refine LinesAt.drewN ?_ _ | refine LinesAt.drew ?_)))).mono ?_; rintro e w1 ⟨rfl, hbl⟩; obtain ⟨x, rfl⟩ := ovr_of_below hbl; clear hbl) | (go_at_call 58; refine (rnone_any _).mono ?_; rintro e w1 ⟨rfl, hbl⟩; obtain ⟨x, rfl⟩ := ovr_of_below hbl; clear hbl))
    refine bodyPost_ret (v := movV noMov) (by simp [results, Try.results45, go_sem, noMov]) rfl ⟨by rw [HP.out], by (repeat (first | exact Below.refl _ _ | refine Below.alloc ?_ (by first | exact Nat.le_refl _ | (simp; done) | (simp; omega)) _ | refine below_ovr_of ?_ | refine drew_below ?_ _ | refine Below.drew ?_ | refine Below.setCell ?_ (by first | exact Nat.le_refl _ | (simp; done) | (simp; omega)) _ | assumption))⟩
  | true =>
    obtain ⟨p1, p2, p3, p4⟩ := plcB_spec hp
    by_cases h1 : 1 ≤ n
    · have HP : Hid (underP L pl pc n = lineM L (pl + min n 1073741824 - 1) false) := Lib.hid (underP_line hp h1 hlen)
      obtain ⟨⟨⟨r1, r2, r3, r4, r5⟩, ok⟩, hr⟩ : ∃ r, lineM L (pl + min n 1073741824 - 1) false = r := ⟨_, rfl⟩
      have HR := Lib.hid hr
      clear hr
      obtain ⟨m, hm⟩ : ∃ m, min n 1073741824 = m := ⟨_, rfl⟩
      have m1 : 1 ≤ m := by omega
      have m2 : m ≤ 1073741824 := by omega
      rw [hm] at HR HP
      have HM := Lib.hid hm
      clear hm
      have hw1 : IntKind.i64.wrap (pl + m) = (pl + m) := IntWalk.i64_in _ (by omega)
      have hw2 : IntKind.i64.wrap (pl + m - 1) = (pl + m - 1) := IntWalk.i64_in _ (by omega)
      go_enter Try.func45, Try.ntmps45
      go_wp2_with (go_at_call 57; refine (rmay_any _ _ L _ _ _ _ (by (repeat (first | assumption | refine LinesAt.ovr ?_ _ | refine LinesAt.alloc ?_ _ | refine LinesAt.drewN ?_ _ | refine LinesAt.drew ?_)))).mono ?_; rintro e w1 ⟨rfl, hbl⟩; obtain ⟨x, rfl⟩ := ovr_of_below hbl; clear hbl)
      go_region_with (first | (go_at_call 73; refine (rcapped_any _ _).mono ?_; rw [HM.out]; rintro e w1 ⟨rfl, rfl⟩) | (go_at_call 59; refine (rline_any _ _ L _ _ _ (by (repeat (first | assumption | refine LinesAt.ovr ?_ _ | refine LinesAt.alloc ?_ _ | refine LinesAt.drewN ?_ _ | refine LinesAt.drew ?_)))).mono ?_; rw [HR.out]; rintro e w1 ⟨rfl, hbl⟩; obtain ⟨x, rfl⟩ := ovr_of_below hbl; clear hbl))
      all_goals (
        go_wp2
        refine bodyPost_ret (v := movV ((r1, r2, r3, r4, r5), ok)) (by simp [results, Try.results45, go_sem]) rfl ⟨by rw [HP.out, HR.out], by (repeat (first | exact Below.refl _ _ | refine Below.alloc ?_ (by first | exact Nat.le_refl _ | (simp; done) | (simp; omega)) _ | refine below_ovr_of ?_ | refine drew_below ?_ _ | refine Below.drew ?_ | refine Below.setCell ?_ (by first | exact Nat.le_refl _ | (simp; done) | (simp; omega)) _ | assumption))⟩)
    · have HP : Hid (underP L pl pc n = noMov) := Lib.hid (by rw [underP, if_neg h1])
      have h1' : decide (1 ≤ n) = false := decide_eq_false h1
      clear h1
      go_enter Try.func45, Try.ntmps45
      go_wp2_with (first | (go_at_call 57; refine (rmay_any _ _ L _ _ _ _ (by (repeat (first | assumption | refine LinesAt.ovr ?_ _ | refine LinesAt.alloc ?_ _ | refine LinesAt.drewN ?_ _ | refine LinesAt.drew ?_)))).mono ?_; rintro e w1 ⟨rfl, hbl⟩; obtain ⟨x, rfl⟩ := ovr_of_below hbl; clear hbl) | (go_at_call 58; refine (rnone_any _).mono ?_; rintro e w1 ⟨rfl, hbl⟩; obtain ⟨x, rfl⟩ := ovr_of_below hbl; clear hbl))
      refine bodyPost_ret (v := movV noMov) (by simp [results, Try.results45, go_sem, noMov]) rfl ⟨by rw [HP.out], by (repeat (first | exact Below.refl _ _ | refine Below.alloc ?_ (by first | exact Nat.le_refl _ | (simp; done) | (simp; omega)) _ | refine below_ovr_of ?_ | refine drew_below ?_ _ | refine Below.drew ?_ | refine Below.setCell ?_ (by first | exact Nat.le_refl _ | (simp; done) | (simp; omega)) _ | assumption))⟩
end Go.Proofs.Ytmafieomlhpdeaa
