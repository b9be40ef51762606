/- Several texts in one: Object, Object2, Known26, ObjectInner. Conditions: none beyond what each says. -/
import Derived.Test.YtlbbgocggifjaaaOI39
import Derived.Test.YtlbbgocggifjaaaOI37
import Derived.Test.YtlbbgocggifjaaaOI28
import Derived.Test.YtlbbgocggifjaaaOI19
import Derived.Test.YtlbbgocggifjaaaOI36
import Derived.Test.YtlbbgocggifjaaaOI38
import Derived.Test.YtlbbgocggifjaaaOI12
namespace Go.Proofs.Ytlbbgocggifjaaa
open Go.RowKit

theorem objP_w {L : List ByteArray} {pl pc n : Int} {ar : Bool} : objP L pl pc 119 n ar = wordP L pl pc n false ar := by rw [objP, if_pos rfl]
theorem objP_W {L : List ByteArray} {pl pc n : Int} {ar : Bool} : objP L pl pc 87 n ar = wordP L pl pc n true ar := by rw [objP, if_neg (by decide), if_pos rfl]
theorem objP_q {L : List ByteArray} {pl pc n q : Int} {ar : Bool} (h : q = 34 ∨ q = 39 ∨ q = 96) : objP L pl pc q n ar = quoteP L pl pc q ar := by rw [objP, if_neg (by omega), if_neg (by omega), if_pos h]
theorem objP_b {L : List ByteArray} {pl pc n q : Int} {ar : Bool} (h : q = 40 ∨ q = 91 ∨ q = 123) : objP L pl pc q n ar = bracketP L pl pc q n ar := by rw [objP, if_neg (by omega), if_neg (by omega), if_neg (by omega), if_pos h]
theorem objP_p {L : List ByteArray} {pl pc n : Int} {ar : Bool} : objP L pl pc 112 n ar = paraOP L pl pc n ar := by rw [objP, if_neg (by decide), if_neg (by decide), if_neg (by decide), if_neg (by decide), if_pos rfl]
theorem objP_s {L : List ByteArray} {pl pc n : Int} {ar : Bool} : objP L pl pc 115 n ar = sObjP L pl pc ar := by rw [objP, if_neg (by decide), if_neg (by decide), if_neg (by decide), if_neg (by decide), if_neg (by decide), if_pos rfl]
theorem objP_no {L : List ByteArray} {pl pc n q : Int} {ar : Bool} (h : ¬ (q = 119 ∨ q = 87 ∨ q = 34 ∨ q = 39 ∨ q = 96 ∨ q = 40 ∨ q = 91 ∨ q = 123 ∨ q = 112 ∨ q = 115)) : objP L pl pc q n ar = noR := by
  rw [objP, if_neg (by omega), if_neg (by omega), if_neg (by omega), if_neg (by omega), if_neg (by omega), if_neg (by omega)]
set_option maxRecDepth 100000 in
set_option maxHeartbeats 8000000 in
theorem oinner_any (a : Option Addr) (cap : Nat) (L : List ByteArray) (pl pc arg n : Int) (w : World) (hL : LinesAt w a L) (htot : L.length + total L ≤ 100000) (hn2 : n ≤ 9223372036854775807) :
    Calls Try.prog 140 #[.slice a L.length cap, .agg #[.int .i64 pl, .int .i64 pc], .int .u8 arg, .int .i64 n] w fun e w' => e = .returned (rngV (objP L pl pc arg n false)) ∧ Below w.heap.size w w' := by
  by_cases h119 : arg = 119
  · subst h119
    rw [objP_w]
    obtain ⟨k, fl, fc, tl, tc, ok, hr⟩ := rng_ways (wordP L pl pc n false false)
    have HR := Lib.hid hr
    clear hr
    go_enter Try.func140, Try.ntmps140
    go_wp2_with fail
    go_at_call 40; refine (winner_any _ _ L _ _ _ _ _ (by (repeat (first | assumption | refine LinesAt.ovr ?_ _ | refine LinesAt.alloc ?_ _ | refine LinesAt.drewN ?_ _ | refine LinesAt.drew ?_))) (by omega)).mono ?_; rw [HR.out]; rintro e w1 ⟨rfl, hbl⟩; obtain ⟨x, rfl⟩ := ovr_of_below hbl; clear hbl
    go_wp2_with fail
    refine bodyPost_ret (v := rngV ((k, fl, fc, tl, tc), ok)) (by simp [results, Try.results140, go_sem]) rfl ⟨by rw [HR.out], by (repeat (first | with_reducible exact Below.refl _ _ | (with_reducible refine Below.setCell ?_ ?_ _; rotate_left; · (first | exact Nat.le_refl _ | assumption | omega | (simp; done) | (simp; omega))) | (with_reducible refine Below.alloc ?_ ?_ _; rotate_left; · (first | exact Nat.le_refl _ | assumption | omega | (simp; done) | (simp; omega))) | with_reducible refine below_ovr_of ?_ | with_reducible refine drew_below ?_ _ | with_reducible refine Below.drew ?_ | with_reducible assumption))⟩
  by_cases h87 : arg = 87
  · subst h87
    rw [objP_W]
    obtain ⟨k, fl, fc, tl, tc, ok, hr⟩ := rng_ways (wordP L pl pc n true false)
    have HR := Lib.hid hr
    clear hr
    go_enter Try.func140, Try.ntmps140
    go_wp2_with fail
    go_at_call 40; refine (winner_any _ _ L _ _ _ _ _ (by (repeat (first | assumption | refine LinesAt.ovr ?_ _ | refine LinesAt.alloc ?_ _ | refine LinesAt.drewN ?_ _ | refine LinesAt.drew ?_))) (by omega)).mono ?_; rw [HR.out]; rintro e w1 ⟨rfl, hbl⟩; obtain ⟨x, rfl⟩ := ovr_of_below hbl; clear hbl
    go_wp2_with fail
    refine bodyPost_ret (v := rngV ((k, fl, fc, tl, tc), ok)) (by simp [results, Try.results140, go_sem]) rfl ⟨by rw [HR.out], by (repeat (first | with_reducible exact Below.refl _ _ | (with_reducible refine Below.setCell ?_ ?_ _; rotate_left; · (first | exact Nat.le_refl _ | assumption | omega | (simp; done) | (simp; omega))) | (with_reducible refine Below.alloc ?_ ?_ _; rotate_left; · (first | exact Nat.le_refl _ | assumption | omega | (simp; done) | (simp; omega))) | with_reducible refine below_ovr_of ?_ | with_reducible refine drew_below ?_ _ | with_reducible refine Below.drew ?_ | with_reducible assumption))⟩
  by_cases h34 : arg = 34
  · subst h34
    rw [objP_q (by decide)]
    obtain ⟨k, fl, fc, tl, tc, ok, hr⟩ := rng_ways (quoteP L pl pc 34 false)
    have HR := Lib.hid hr
    clear hr
    go_enter Try.func140, Try.ntmps140
    go_wp2_with fail
    go_at_call 32; refine (qinner_any _ _ L _ _ _ _ (by (repeat (first | assumption | refine LinesAt.ovr ?_ _ | refine LinesAt.alloc ?_ _ | refine LinesAt.drewN ?_ _ | refine LinesAt.drew ?_))) (by omega)).mono ?_; rw [HR.out]; rintro e w1 ⟨rfl, hbl⟩; obtain ⟨x, rfl⟩ := ovr_of_below hbl; clear hbl
    go_wp2_with fail
    refine bodyPost_ret (v := rngV ((k, fl, fc, tl, tc), ok)) (by simp [results, Try.results140, go_sem]) rfl ⟨by rw [HR.out], by (repeat (first | with_reducible exact Below.refl _ _ | (with_reducible refine Below.setCell ?_ ?_ _; rotate_left; · (first | exact Nat.le_refl _ | assumption | omega | (simp; done) | (simp; omega))) | (with_reducible refine Below.alloc ?_ ?_ _; rotate_left; · (first | exact Nat.le_refl _ | assumption | omega | (simp; done) | (simp; omega))) | with_reducible refine below_ovr_of ?_ | with_reducible refine drew_below ?_ _ | with_reducible refine Below.drew ?_ | with_reducible assumption))⟩
  by_cases h39 : arg = 39
  · subst h39
    rw [objP_q (by decide)]
    obtain ⟨k, fl, fc, tl, tc, ok, hr⟩ := rng_ways (quoteP L pl pc 39 false)
    have HR := Lib.hid hr
    clear hr
    go_enter Try.func140, Try.ntmps140
    go_wp2_with fail
    go_at_call 32; refine (qinner_any _ _ L _ _ _ _ (by (repeat (first | assumption | refine LinesAt.ovr ?_ _ | refine LinesAt.alloc ?_ _ | refine LinesAt.drewN ?_ _ | refine LinesAt.drew ?_))) (by omega)).mono ?_; rw [HR.out]; rintro e w1 ⟨rfl, hbl⟩; obtain ⟨x, rfl⟩ := ovr_of_below hbl; clear hbl
    go_wp2_with fail
    refine bodyPost_ret (v := rngV ((k, fl, fc, tl, tc), ok)) (by simp [results, Try.results140, go_sem]) rfl ⟨by rw [HR.out], by (repeat (first | with_reducible exact Below.refl _ _ | (with_reducible refine Below.setCell ?_ ?_ _; rotate_left; · (first | exact Nat.le_refl _ | assumption | omega | (simp; done) | (simp; omega))) | (with_reducible refine Below.alloc ?_ ?_ _; rotate_left; · (first | exact Nat.le_refl _ | assumption | omega | (simp; done) | (simp; omega))) | with_reducible refine below_ovr_of ?_ | with_reducible refine drew_below ?_ _ | with_reducible refine Below.drew ?_ | with_reducible assumption))⟩
  by_cases h96 : arg = 96
  · subst h96
    rw [objP_q (by decide)]
    obtain ⟨k, fl, fc, tl, tc, ok, hr⟩ := rng_ways (quoteP L pl pc 96 false)
    have HR := Lib.hid hr
    clear hr
    go_enter Try.func140, Try.ntmps140
    go_wp2_with fail
    go_at_call 32; refine (qinner_any _ _ L _ _ _ _ (by (repeat (first | assumption | refine LinesAt.ovr ?_ _ | refine LinesAt.alloc ?_ _ | refine LinesAt.drewN ?_ _ | refine LinesAt.drew ?_))) (by omega)).mono ?_; rw [HR.out]; rintro e w1 ⟨rfl, hbl⟩; obtain ⟨x, rfl⟩ := ovr_of_below hbl; clear hbl
    go_wp2_with fail
    refine bodyPost_ret (v := rngV ((k, fl, fc, tl, tc), ok)) (by simp [results, Try.results140, go_sem]) rfl ⟨by rw [HR.out], by (repeat (first | with_reducible exact Below.refl _ _ | (with_reducible refine Below.setCell ?_ ?_ _; rotate_left; · (first | exact Nat.le_refl _ | assumption | omega | (simp; done) | (simp; omega))) | (with_reducible refine Below.alloc ?_ ?_ _; rotate_left; · (first | exact Nat.le_refl _ | assumption | omega | (simp; done) | (simp; omega))) | with_reducible refine below_ovr_of ?_ | with_reducible refine drew_below ?_ _ | with_reducible refine Below.drew ?_ | with_reducible assumption))⟩
  by_cases h40 : arg = 40
  · subst h40
    rw [objP_b (by decide)]
    obtain ⟨k, fl, fc, tl, tc, ok, hr⟩ := rng_ways (bracketP L pl pc 40 n false)
    have HR := Lib.hid hr
    clear hr
    go_enter Try.func140, Try.ntmps140
    go_wp2_with fail
    go_at_call 54; refine (binner_any _ _ L _ _ _ _ _ (by (repeat (first | assumption | refine LinesAt.ovr ?_ _ | refine LinesAt.alloc ?_ _ | refine LinesAt.drewN ?_ _ | refine LinesAt.drew ?_))) (by omega) (by omega)).mono ?_; rw [HR.out]; rintro e w1 ⟨rfl, hbl⟩; obtain ⟨x, rfl⟩ := ovr_of_below hbl; clear hbl
    go_wp2_with fail
    refine bodyPost_ret (v := rngV ((k, fl, fc, tl, tc), ok)) (by simp [results, Try.results140, go_sem]) rfl ⟨by rw [HR.out], by (repeat (first | with_reducible exact Below.refl _ _ | (with_reducible refine Below.setCell ?_ ?_ _; rotate_left; · (first | exact Nat.le_refl _ | assumption | omega | (simp; done) | (simp; omega))) | (with_reducible refine Below.alloc ?_ ?_ _; rotate_left; · (first | exact Nat.le_refl _ | assumption | omega | (simp; done) | (simp; omega))) | with_reducible refine below_ovr_of ?_ | with_reducible refine drew_below ?_ _ | with_reducible refine Below.drew ?_ | with_reducible assumption))⟩
  by_cases h91 : arg = 91
  · subst h91
    rw [objP_b (by decide)]
    obtain ⟨k, fl, fc, tl, tc, ok, hr⟩ := rng_ways (bracketP L pl pc 91 n false)
    have HR := Lib.hid hr
    clear hr
    go_enter Try.func140, Try.ntmps140
    go_wp2_with fail
    go_at_call 54; refine (binner_any _ _ L _ _ _ _ _ (by (repeat (first | assumption | refine LinesAt.ovr ?_ _ | refine LinesAt.alloc ?_ _ | refine LinesAt.drewN ?_ _ | refine LinesAt.drew ?_))) (by omega) (by omega)).mono ?_; rw [HR.out]; rintro e w1 ⟨rfl, hbl⟩; obtain ⟨x, rfl⟩ := ovr_of_below hbl; clear hbl
    go_wp2_with fail
    refine bodyPost_ret (v := rngV ((k, fl, fc, tl, tc), ok)) (by simp [results, Try.results140, go_sem]) rfl ⟨by rw [HR.out], by (repeat (first | with_reducible exact Below.refl _ _ | (with_reducible refine Below.setCell ?_ ?_ _; rotate_left; · (first | exact Nat.le_refl _ | assumption | omega | (simp; done) | (simp; omega))) | (with_reducible refine Below.alloc ?_ ?_ _; rotate_left; · (first | exact Nat.le_refl _ | assumption | omega | (simp; done) | (simp; omega))) | with_reducible refine below_ovr_of ?_ | with_reducible refine drew_below ?_ _ | with_reducible refine Below.drew ?_ | with_reducible assumption))⟩
  by_cases h123 : arg = 123
  · subst h123
    rw [objP_b (by decide)]
    obtain ⟨k, fl, fc, tl, tc, ok, hr⟩ := rng_ways (bracketP L pl pc 123 n false)
    have HR := Lib.hid hr
    clear hr
    go_enter Try.func140, Try.ntmps140
    go_wp2_with fail
    go_at_call 54; refine (binner_any _ _ L _ _ _ _ _ (by (repeat (first | assumption | refine LinesAt.ovr ?_ _ | refine LinesAt.alloc ?_ _ | refine LinesAt.drewN ?_ _ | refine LinesAt.drew ?_))) (by omega) (by omega)).mono ?_; rw [HR.out]; rintro e w1 ⟨rfl, hbl⟩; obtain ⟨x, rfl⟩ := ovr_of_below hbl; clear hbl
    go_wp2_with fail
    refine bodyPost_ret (v := rngV ((k, fl, fc, tl, tc), ok)) (by simp [results, Try.results140, go_sem]) rfl ⟨by rw [HR.out], by (repeat (first | with_reducible exact Below.refl _ _ | (with_reducible refine Below.setCell ?_ ?_ _; rotate_left; · (first | exact Nat.le_refl _ | assumption | omega | (simp; done) | (simp; omega))) | (with_reducible refine Below.alloc ?_ ?_ _; rotate_left; · (first | exact Nat.le_refl _ | assumption | omega | (simp; done) | (simp; omega))) | with_reducible refine below_ovr_of ?_ | with_reducible refine drew_below ?_ _ | with_reducible refine Below.drew ?_ | with_reducible assumption))⟩
  by_cases h112 : arg = 112
  · subst h112
    rw [objP_p]
    obtain ⟨k, fl, fc, tl, tc, ok, hr⟩ := rng_ways (paraOP L pl pc n false)
    have HR := Lib.hid hr
    clear hr
    go_enter Try.func140, Try.ntmps140
    go_wp2_with fail
    go_at_call 81; refine (pinner_any _ _ L _ _ _ _ (by (repeat (first | assumption | refine LinesAt.ovr ?_ _ | refine LinesAt.alloc ?_ _ | refine LinesAt.drewN ?_ _ | refine LinesAt.drew ?_))) (by omega) (by omega)).mono ?_; rw [HR.out]; rintro e w1 ⟨rfl, hbl⟩; obtain ⟨x, rfl⟩ := ovr_of_below hbl; clear hbl
    go_wp2_with fail
    refine bodyPost_ret (v := rngV ((k, fl, fc, tl, tc), ok)) (by simp [results, Try.results140, go_sem]) rfl ⟨by rw [HR.out], by (repeat (first | with_reducible exact Below.refl _ _ | (with_reducible refine Below.setCell ?_ ?_ _; rotate_left; · (first | exact Nat.le_refl _ | assumption | omega | (simp; done) | (simp; omega))) | (with_reducible refine Below.alloc ?_ ?_ _; rotate_left; · (first | exact Nat.le_refl _ | assumption | omega | (simp; done) | (simp; omega))) | with_reducible refine below_ovr_of ?_ | with_reducible refine drew_below ?_ _ | with_reducible refine Below.drew ?_ | with_reducible assumption))⟩
  by_cases h115 : arg = 115
  · subst h115
    rw [objP_s]
    obtain ⟨k, fl, fc, tl, tc, ok, hr⟩ := rng_ways (sObjP L pl pc false)
    have HR := Lib.hid hr
    clear hr
    go_enter Try.func140, Try.ntmps140
    go_wp2_with fail
    go_at_call 85; refine (psobj_any _ _ L _ _ _ _ (by (repeat (first | assumption | refine LinesAt.ovr ?_ _ | refine LinesAt.alloc ?_ _ | refine LinesAt.drewN ?_ _ | refine LinesAt.drew ?_))) (by omega)).mono ?_; rw [HR.out]; rintro e w1 ⟨rfl, hbl⟩; obtain ⟨x, rfl⟩ := ovr_of_below hbl; clear hbl
    go_wp2_with fail
    refine bodyPost_ret (v := rngV ((k, fl, fc, tl, tc), ok)) (by simp [results, Try.results140, go_sem]) rfl ⟨by rw [HR.out], by (repeat (first | with_reducible exact Below.refl _ _ | (with_reducible refine Below.setCell ?_ ?_ _; rotate_left; · (first | exact Nat.le_refl _ | assumption | omega | (simp; done) | (simp; omega))) | (with_reducible refine Below.alloc ?_ ?_ _; rotate_left; · (first | exact Nat.le_refl _ | assumption | omega | (simp; done) | (simp; omega))) | with_reducible refine below_ovr_of ?_ | with_reducible refine drew_below ?_ _ | with_reducible refine Below.drew ?_ | with_reducible assumption))⟩
  rw [objP_no (by omega)]
  go_enter Try.func140, Try.ntmps140
  go_wp2_with fail
  refine bodyPost_ret (v := rngV noR) (by simp [results, Try.results140, go_sem, noR]) rfl ⟨rfl, by (repeat (first | with_reducible exact Below.refl _ _ | (with_reducible refine Below.setCell ?_ ?_ _; rotate_left; · (first | exact Nat.le_refl _ | assumption | omega | (simp; done) | (simp; omega))) | (with_reducible refine Below.alloc ?_ ?_ _; rotate_left; · (first | exact Nat.le_refl _ | assumption | omega | (simp; done) | (simp; omega))) | with_reducible refine below_ovr_of ?_ | with_reducible refine drew_below ?_ _ | with_reducible refine Below.drew ?_ | with_reducible assumption))⟩
set_option maxRecDepth 100000 in
set_option maxHeartbeats 8000000 in
theorem oaround_any (a : Option Addr) (cap : Nat) (L : List ByteArray) (pl pc arg n : Int) (w : World) (hL : LinesAt w a L) (htot : L.length + total L ≤ 100000) (hn2 : n ≤ 9223372036854775807) :
    Calls Try.prog 141 #[.slice a L.length cap, .agg #[.int .i64 pl, .int .i64 pc], .int .u8 arg, .int .i64 n] w fun e w' => e = .returned (rngV (objP L pl pc arg n true)) ∧ Below w.heap.size w w' := by
  by_cases h119 : arg = 119
  · subst h119
    rw [objP_w]
    obtain ⟨k, fl, fc, tl, tc, ok, hr⟩ := rng_ways (wordP L pl pc n false true)
    have HR := Lib.hid hr
    clear hr
    go_enter Try.func141, Try.ntmps141
    go_wp2_with fail
    go_at_call 42; refine (waround_any _ _ L _ _ _ _ _ (by (repeat (first | assumption | refine LinesAt.ovr ?_ _ | refine LinesAt.alloc ?_ _ | refine LinesAt.drewN ?_ _ | refine LinesAt.drew ?_))) (by omega)).mono ?_; rw [HR.out]; rintro e w1 ⟨rfl, hbl⟩; obtain ⟨x, rfl⟩ := ovr_of_below hbl; clear hbl
    go_wp2_with fail
    refine bodyPost_ret (v := rngV ((k, fl, fc, tl, tc), ok)) (by simp [results, Try.results141, go_sem]) rfl ⟨by rw [HR.out], by (repeat (first | with_reducible exact Below.refl _ _ | (with_reducible refine Below.setCell ?_ ?_ _; rotate_left; · (first | exact Nat.le_refl _ | assumption | omega | (simp; done) | (simp; omega))) | (with_reducible refine Below.alloc ?_ ?_ _; rotate_left; · (first | exact Nat.le_refl _ | assumption | omega | (simp; done) | (simp; omega))) | with_reducible refine below_ovr_of ?_ | with_reducible refine drew_below ?_ _ | with_reducible refine Below.drew ?_ | with_reducible assumption))⟩
  by_cases h87 : arg = 87
  · subst h87
    rw [objP_W]
    obtain ⟨k, fl, fc, tl, tc, ok, hr⟩ := rng_ways (wordP L pl pc n true true)
    have HR := Lib.hid hr
    clear hr
    go_enter Try.func141, Try.ntmps141
    go_wp2_with fail
    go_at_call 42; refine (waround_any _ _ L _ _ _ _ _ (by (repeat (first | assumption | refine LinesAt.ovr ?_ _ | refine LinesAt.alloc ?_ _ | refine LinesAt.drewN ?_ _ | refine LinesAt.drew ?_))) (by omega)).mono ?_; rw [HR.out]; rintro e w1 ⟨rfl, hbl⟩; obtain ⟨x, rfl⟩ := ovr_of_below hbl; clear hbl
    go_wp2_with fail
    refine bodyPost_ret (v := rngV ((k, fl, fc, tl, tc), ok)) (by simp [results, Try.results141, go_sem]) rfl ⟨by rw [HR.out], by (repeat (first | with_reducible exact Below.refl _ _ | (with_reducible refine Below.setCell ?_ ?_ _; rotate_left; · (first | exact Nat.le_refl _ | assumption | omega | (simp; done) | (simp; omega))) | (with_reducible refine Below.alloc ?_ ?_ _; rotate_left; · (first | exact Nat.le_refl _ | assumption | omega | (simp; done) | (simp; omega))) | with_reducible refine below_ovr_of ?_ | with_reducible refine drew_below ?_ _ | with_reducible refine Below.drew ?_ | with_reducible assumption))⟩
  by_cases h34 : arg = 34
  · subst h34
    rw [objP_q (by decide)]
    obtain ⟨k, fl, fc, tl, tc, ok, hr⟩ := rng_ways (quoteP L pl pc 34 true)
    have HR := Lib.hid hr
    clear hr
    go_enter Try.func141, Try.ntmps141
    go_wp2_with fail
    go_at_call 34; refine (qaround_any _ _ L _ _ _ _ (by (repeat (first | assumption | refine LinesAt.ovr ?_ _ | refine LinesAt.alloc ?_ _ | refine LinesAt.drewN ?_ _ | refine LinesAt.drew ?_))) (by omega)).mono ?_; rw [HR.out]; rintro e w1 ⟨rfl, hbl⟩; obtain ⟨x, rfl⟩ := ovr_of_below hbl; clear hbl
    go_wp2_with fail
    refine bodyPost_ret (v := rngV ((k, fl, fc, tl, tc), ok)) (by simp [results, Try.results141, go_sem]) rfl ⟨by rw [HR.out], by (repeat (first | with_reducible exact Below.refl _ _ | (with_reducible refine Below.setCell ?_ ?_ _; rotate_left; · (first | exact Nat.le_refl _ | assumption | omega | (simp; done) | (simp; omega))) | (with_reducible refine Below.alloc ?_ ?_ _; rotate_left; · (first | exact Nat.le_refl _ | assumption | omega | (simp; done) | (simp; omega))) | with_reducible refine below_ovr_of ?_ | with_reducible refine drew_below ?_ _ | with_reducible refine Below.drew ?_ | with_reducible assumption))⟩
  by_cases h39 : arg = 39
  · subst h39
    rw [objP_q (by decide)]
    obtain ⟨k, fl, fc, tl, tc, ok, hr⟩ := rng_ways (quoteP L pl pc 39 true)
    have HR := Lib.hid hr
    clear hr
    go_enter Try.func141, Try.ntmps141
    go_wp2_with fail
    go_at_call 34; refine (qaround_any _ _ L _ _ _ _ (by (repeat (first | assumption | refine LinesAt.ovr ?_ _ | refine LinesAt.alloc ?_ _ | refine LinesAt.drewN ?_ _ | refine LinesAt.drew ?_))) (by omega)).mono ?_; rw [HR.out]; rintro e w1 ⟨rfl, hbl⟩; obtain ⟨x, rfl⟩ := ovr_of_below hbl; clear hbl
    go_wp2_with fail
    refine bodyPost_ret (v := rngV ((k, fl, fc, tl, tc), ok)) (by simp [results, Try.results141, go_sem]) rfl ⟨by rw [HR.out], by (repeat (first | with_reducible exact Below.refl _ _ | (with_reducible refine Below.setCell ?_ ?_ _; rotate_left; · (first | exact Nat.le_refl _ | assumption | omega | (simp; done) | (simp; omega))) | (with_reducible refine Below.alloc ?_ ?_ _; rotate_left; · (first | exact Nat.le_refl _ | assumption | omega | (simp; done) | (simp; omega))) | with_reducible refine below_ovr_of ?_ | with_reducible refine drew_below ?_ _ | with_reducible refine Below.drew ?_ | with_reducible assumption))⟩
  by_cases h96 : arg = 96
  · subst h96
    rw [objP_q (by decide)]
    obtain ⟨k, fl, fc, tl, tc, ok, hr⟩ := rng_ways (quoteP L pl pc 96 true)
    have HR := Lib.hid hr
    clear hr
    go_enter Try.func141, Try.ntmps141
    go_wp2_with fail
    go_at_call 34; refine (qaround_any _ _ L _ _ _ _ (by (repeat (first | assumption | refine LinesAt.ovr ?_ _ | refine LinesAt.alloc ?_ _ | refine LinesAt.drewN ?_ _ | refine LinesAt.drew ?_))) (by omega)).mono ?_; rw [HR.out]; rintro e w1 ⟨rfl, hbl⟩; obtain ⟨x, rfl⟩ := ovr_of_below hbl; clear hbl
    go_wp2_with fail
    refine bodyPost_ret (v := rngV ((k, fl, fc, tl, tc), ok)) (by simp [results, Try.results141, go_sem]) rfl ⟨by rw [HR.out], by (repeat (first | with_reducible exact Below.refl _ _ | (with_reducible refine Below.setCell ?_ ?_ _; rotate_left; · (first | exact Nat.le_refl _ | assumption | omega | (simp; done) | (simp; omega))) | (with_reducible refine Below.alloc ?_ ?_ _; rotate_left; · (first | exact Nat.le_refl _ | assumption | omega | (simp; done) | (simp; omega))) | with_reducible refine below_ovr_of ?_ | with_reducible refine drew_below ?_ _ | with_reducible refine Below.drew ?_ | with_reducible assumption))⟩
  by_cases h40 : arg = 40
  · subst h40
    rw [objP_b (by decide)]
    obtain ⟨k, fl, fc, tl, tc, ok, hr⟩ := rng_ways (bracketP L pl pc 40 n true)
    have HR := Lib.hid hr
    clear hr
    go_enter Try.func141, Try.ntmps141
    go_wp2_with fail
    go_at_call 56; refine (baround_any _ _ L _ _ _ _ _ (by (repeat (first | assumption | refine LinesAt.ovr ?_ _ | refine LinesAt.alloc ?_ _ | refine LinesAt.drewN ?_ _ | refine LinesAt.drew ?_))) (by omega) (by omega)).mono ?_; rw [HR.out]; rintro e w1 ⟨rfl, hbl⟩; obtain ⟨x, rfl⟩ := ovr_of_below hbl; clear hbl
    go_wp2_with fail
    refine bodyPost_ret (v := rngV ((k, fl, fc, tl, tc), ok)) (by simp [results, Try.results141, go_sem]) rfl ⟨by rw [HR.out], by (repeat (first | with_reducible exact Below.refl _ _ | (with_reducible refine Below.setCell ?_ ?_ _; rotate_left; · (first | exact Nat.le_refl _ | assumption | omega | (simp; done) | (simp; omega))) | (with_reducible refine Below.alloc ?_ ?_ _; rotate_left; · (first | exact Nat.le_refl _ | assumption | omega | (simp; done) | (simp; omega))) | with_reducible refine below_ovr_of ?_ | with_reducible refine drew_below ?_ _ | with_reducible refine Below.drew ?_ | with_reducible assumption))⟩
  by_cases h91 : arg = 91
  · subst h91
    rw [objP_b (by decide)]
    obtain ⟨k, fl, fc, tl, tc, ok, hr⟩ := rng_ways (bracketP L pl pc 91 n true)
    have HR := Lib.hid hr
    clear hr
    go_enter Try.func141, Try.ntmps141
    go_wp2_with fail
    go_at_call 56; refine (baround_any _ _ L _ _ _ _ _ (by (repeat (first | assumption | refine LinesAt.ovr ?_ _ | refine LinesAt.alloc ?_ _ | refine LinesAt.drewN ?_ _ | refine LinesAt.drew ?_))) (by omega) (by omega)).mono ?_; rw [HR.out]; rintro e w1 ⟨rfl, hbl⟩; obtain ⟨x, rfl⟩ := ovr_of_below hbl; clear hbl
    go_wp2_with fail
    refine bodyPost_ret (v := rngV ((k, fl, fc, tl, tc), ok)) (by simp [results, Try.results141, go_sem]) rfl ⟨by rw [HR.out], by (repeat (first | with_reducible exact Below.refl _ _ | (with_reducible refine Below.setCell ?_ ?_ _; rotate_left; · (first | exact Nat.le_refl _ | assumption | omega | (simp; done) | (simp; omega))) | (with_reducible refine Below.alloc ?_ ?_ _; rotate_left; · (first | exact Nat.le_refl _ | assumption | omega | (simp; done) | (simp; omega))) | with_reducible refine below_ovr_of ?_ | with_reducible refine drew_below ?_ _ | with_reducible refine Below.drew ?_ | with_reducible assumption))⟩
  by_cases h123 : arg = 123
  · subst h123
    rw [objP_b (by decide)]
    obtain ⟨k, fl, fc, tl, tc, ok, hr⟩ := rng_ways (bracketP L pl pc 123 n true)
    have HR := Lib.hid hr
    clear hr
    go_enter Try.func141, Try.ntmps141
    go_wp2_with fail
    go_at_call 56; refine (baround_any _ _ L _ _ _ _ _ (by (repeat (first | assumption | refine LinesAt.ovr ?_ _ | refine LinesAt.alloc ?_ _ | refine LinesAt.drewN ?_ _ | refine LinesAt.drew ?_))) (by omega) (by omega)).mono ?_; rw [HR.out]; rintro e w1 ⟨rfl, hbl⟩; obtain ⟨x, rfl⟩ := ovr_of_below hbl; clear hbl
    go_wp2_with fail
    refine bodyPost_ret (v := rngV ((k, fl, fc, tl, tc), ok)) (by simp [results, Try.results141, go_sem]) rfl ⟨by rw [HR.out], by (repeat (first | with_reducible exact Below.refl _ _ | (with_reducible refine Below.setCell ?_ ?_ _; rotate_left; · (first | exact Nat.le_refl _ | assumption | omega | (simp; done) | (simp; omega))) | (with_reducible refine Below.alloc ?_ ?_ _; rotate_left; · (first | exact Nat.le_refl _ | assumption | omega | (simp; done) | (simp; omega))) | with_reducible refine below_ovr_of ?_ | with_reducible refine drew_below ?_ _ | with_reducible refine Below.drew ?_ | with_reducible assumption))⟩
  by_cases h112 : arg = 112
  · subst h112
    rw [objP_p]
    obtain ⟨k, fl, fc, tl, tc, ok, hr⟩ := rng_ways (paraOP L pl pc n true)
    have HR := Lib.hid hr
    clear hr
    go_enter Try.func141, Try.ntmps141
    go_wp2_with fail
    go_at_call 83; refine (paround_any _ _ L _ _ _ _ (by (repeat (first | assumption | refine LinesAt.ovr ?_ _ | refine LinesAt.alloc ?_ _ | refine LinesAt.drewN ?_ _ | refine LinesAt.drew ?_))) (by omega) (by omega)).mono ?_; rw [HR.out]; rintro e w1 ⟨rfl, hbl⟩; obtain ⟨x, rfl⟩ := ovr_of_below hbl; clear hbl
    go_wp2_with fail
    refine bodyPost_ret (v := rngV ((k, fl, fc, tl, tc), ok)) (by simp [results, Try.results141, go_sem]) rfl ⟨by rw [HR.out], by (repeat (first | with_reducible exact Below.refl _ _ | (with_reducible refine Below.setCell ?_ ?_ _; rotate_left; · (first | exact Nat.le_refl _ | assumption | omega | (simp; done) | (simp; omega))) | (with_reducible refine Below.alloc ?_ ?_ _; rotate_left; · (first | exact Nat.le_refl _ | assumption | omega | (simp; done) | (simp; omega))) | with_reducible refine below_ovr_of ?_ | with_reducible refine drew_below ?_ _ | with_reducible refine Below.drew ?_ | with_reducible assumption))⟩
  by_cases h115 : arg = 115
  · subst h115
    rw [objP_s]
    obtain ⟨k, fl, fc, tl, tc, ok, hr⟩ := rng_ways (sObjP L pl pc true)
    have HR := Lib.hid hr
    clear hr
    go_enter Try.func141, Try.ntmps141
    go_wp2_with fail
    go_at_call 85; refine (psobj_any _ _ L _ _ _ _ (by (repeat (first | assumption | refine LinesAt.ovr ?_ _ | refine LinesAt.alloc ?_ _ | refine LinesAt.drewN ?_ _ | refine LinesAt.drew ?_))) (by omega)).mono ?_; rw [HR.out]; rintro e w1 ⟨rfl, hbl⟩; obtain ⟨x, rfl⟩ := ovr_of_below hbl; clear hbl
    go_wp2_with fail
    refine bodyPost_ret (v := rngV ((k, fl, fc, tl, tc), ok)) (by simp [results, Try.results141, go_sem]) rfl ⟨by rw [HR.out], by (repeat (first | with_reducible exact Below.refl _ _ | (with_reducible refine Below.setCell ?_ ?_ _; rotate_left; · (first | exact Nat.le_refl _ | assumption | omega | (simp; done) | (simp; omega))) | (with_reducible refine Below.alloc ?_ ?_ _; rotate_left; · (first | exact Nat.le_refl _ | assumption | omega | (simp; done) | (simp; omega))) | with_reducible refine below_ovr_of ?_ | with_reducible refine drew_below ?_ _ | with_reducible refine Below.drew ?_ | with_reducible assumption))⟩
  rw [objP_no (by omega)]
  go_enter Try.func141, Try.ntmps141
  go_wp2_with fail
  refine bodyPost_ret (v := rngV noR) (by simp [results, Try.results141, go_sem, noR]) rfl ⟨rfl, by (repeat (first | with_reducible exact Below.refl _ _ | (with_reducible refine Below.setCell ?_ ?_ _; rotate_left; · (first | exact Nat.le_refl _ | assumption | omega | (simp; done) | (simp; omega))) | (with_reducible refine Below.alloc ?_ ?_ _; rotate_left; · (first | exact Nat.le_refl _ | assumption | omega | (simp; done) | (simp; omega))) | with_reducible refine below_ovr_of ?_ | with_reducible refine drew_below ?_ _ | with_reducible refine Below.drew ?_ | with_reducible assumption))⟩
end Go.Proofs.Ytlbbgocggifjaaa
namespace Go.Proofs.Ytlbbgocggifjaaa
open Go.RowKit

theorem fin_ways (r : Rng × Bool) : ∃ k fl fc tl tc ok, r = ((k, fl, fc, tl, tc), ok) ∧ ((ok = false ∧ finR r = noR) ∨ (ok = true ∧ (k == (0 : Int)) = false ∧ finR r = r) ∨ (ok = true ∧ k = 0 ∧ fl = tl ∧ fc = tc ∧ finR r = noR) ∨ (ok = true ∧ k = 0 ∧ (fl == tl) = false ∧ finR r = r) ∨ (ok = true ∧ k = 0 ∧ fl = tl ∧ (fc == tc) = false ∧ finR r = r)) := by
  obtain ⟨⟨k, fl, fc, tl, tc⟩, ok⟩ := r
  refine ⟨k, fl, fc, tl, tc, ok, rfl, ?_⟩
  unfold finR
  simp only [beq_eq_false_iff_ne, ne_eq]
  cases ok with
  | false => exact .inl ⟨rfl, by rw [if_neg (by simp)]⟩
  | true =>
    by_cases h1 : k = 0
    · by_cases h2 : fl = tl
      · by_cases h3 : fc = tc
        · exact .inr (.inr (.inl ⟨rfl, h1, h2, h3, by rw [if_neg (by simp [h1, h2, h3])]⟩))
        · exact .inr (.inr (.inr (.inr ⟨rfl, h1, h2, h3, by rw [if_pos (by simp [h3])]⟩)))
      · exact .inr (.inr (.inr (.inl ⟨rfl, h1, h2, by rw [if_pos (by simp [h2])]⟩)))
    · exact .inr (.inl ⟨rfl, h1, by rw [if_pos (by simp [h1])]⟩)
set_option maxRecDepth 100000 in
set_option maxHeartbeats 8000000 in
theorem odo_any (a : Option Addr) (cap : Nat) (L : List ByteArray) (pl pc reg cnt arg : Int) (op name text : ByteArray) (w : World) (hL : LinesAt w a L) (htot : L.length + total L ≤ 100000) (hn2 : cnt ≤ 9223372036854775807) :
    Calls Try.prog 88 #[.slice a L.length cap, .agg #[.int .i64 pl, .int .i64 pc], .agg #[.int .u8 reg, .int .i64 cnt, .string op, .string name, .int .u8 arg, .string text]] w fun e w' => e = .returned (rngV (doP L pl pc name arg cnt)) ∧ Below w.heap.size w w' := by
  obtain ⟨m, hm⟩ : ∃ m, (if cnt = 0 then (1 : Int) else cnt) = m := ⟨_, rfl⟩
  have hm2 : m ≤ 9223372036854775807 := by rw [← hm]; split <;> omega
  have HM := Lib.hid hm
  clear hm
  by_cases hi : name.toList = [105]
  · have hD := Lib.hid (show doP L pl pc name arg cnt = finR (objP L pl pc arg m false) by rw [doP, if_pos hi, HM.out])
    have hE : (name.toList == [105]) = true := by rw [hi]; rfl
    rw [hD.out]
    clear hi
    obtain ⟨k, fl, fc, tl, tc, ok, hr, hways⟩ := fin_ways (objP L pl pc arg m false)
    have HR := Lib.hid hr
    clear hr
    rcases hways with ⟨rfl, hf⟩ | ⟨rfl, hk, hf⟩ | ⟨rfl, rfl, rfl, rfl, hf⟩ | ⟨rfl, rfl, hne, hf⟩ | ⟨rfl, rfl, rfl, hne, hf⟩
    all_goals (
      rw [hf]
      clear hf
      by_cases hc : cnt = 0
      all_goals (
        have hM := HM.out
        first | (rw [if_pos hc] at hM; subst hc) | rw [if_neg hc] at hM
        subst hM
        go_enter Try.func88, Try.ntmps88
        go_wp2_with fail
        (go_at_call 140; refine (oinner_any _ _ L _ _ _ _ _ (LinesAt.alloc (LinesAt.alloc (LinesAt.alloc (LinesAt.alloc hL _) _) _) _) htot hm2).mono ?_; rw [HR.out]; rintro e w1 ⟨rfl, hbl⟩; obtain ⟨x, rfl⟩ := ovr_of_below hbl; clear hbl)
        go_wp2_with fail
        first
          | (refine bodyPost_ret (v := rngV noR) (by simp [results, Try.results88, go_sem, noR]; done) rfl ⟨rfl, by (repeat (first | with_reducible exact Below.refl _ _ | (with_reducible refine Below.setCell ?_ ?_ _; rotate_left; · (first | exact Nat.le_refl _ | assumption | omega | (simp; done) | (simp; omega))) | (with_reducible refine Below.alloc ?_ ?_ _; rotate_left; · (first | exact Nat.le_refl _ | assumption | omega | (simp; done) | (simp; omega))) | with_reducible refine below_ovr_of ?_ | with_reducible refine drew_below ?_ _ | with_reducible refine Below.drew ?_ | with_reducible assumption))⟩)
          | (refine bodyPost_ret (v := rngV ((k, fl, fc, tl, tc), true)) (by simp [results, Try.results88, go_sem]; done) rfl ⟨by rw [HR.out], by (repeat (first | with_reducible exact Below.refl _ _ | (with_reducible refine Below.setCell ?_ ?_ _; rotate_left; · (first | exact Nat.le_refl _ | assumption | omega | (simp; done) | (simp; omega))) | (with_reducible refine Below.alloc ?_ ?_ _; rotate_left; · (first | exact Nat.le_refl _ | assumption | omega | (simp; done) | (simp; omega))) | with_reducible refine below_ovr_of ?_ | with_reducible refine drew_below ?_ _ | with_reducible refine Below.drew ?_ | with_reducible assumption))⟩)
          | (refine bodyPost_ret (v := rngV ((0, fl, fc, tl, tc), true)) (by simp [results, Try.results88, go_sem]; done) rfl ⟨by rw [HR.out], by (repeat (first | with_reducible exact Below.refl _ _ | (with_reducible refine Below.setCell ?_ ?_ _; rotate_left; · (first | exact Nat.le_refl _ | assumption | omega | (simp; done) | (simp; omega))) | (with_reducible refine Below.alloc ?_ ?_ _; rotate_left; · (first | exact Nat.le_refl _ | assumption | omega | (simp; done) | (simp; omega))) | with_reducible refine below_ovr_of ?_ | with_reducible refine drew_below ?_ _ | with_reducible refine Below.drew ?_ | with_reducible assumption))⟩)
          | (refine bodyPost_ret (v := rngV ((0, fl, fc, fl, tc), true)) (by simp [results, Try.results88, go_sem]; done) rfl ⟨by rw [HR.out], by (repeat (first | with_reducible exact Below.refl _ _ | (with_reducible refine Below.setCell ?_ ?_ _; rotate_left; · (first | exact Nat.le_refl _ | assumption | omega | (simp; done) | (simp; omega))) | (with_reducible refine Below.alloc ?_ ?_ _; rotate_left; · (first | exact Nat.le_refl _ | assumption | omega | (simp; done) | (simp; omega))) | with_reducible refine below_ovr_of ?_ | with_reducible refine drew_below ?_ _ | with_reducible refine Below.drew ?_ | with_reducible assumption))⟩)))
  · have hE : (name.toList == [105]) = false := by rw [beq_eq_false_iff_ne]; exact hi
    by_cases ha : name.toList = [97]
    · have hD := Lib.hid (show doP L pl pc name arg cnt = finR (objP L pl pc arg m true) by rw [doP, if_neg hi, if_pos ha, HM.out])
      have hE2 : (name.toList == [97]) = true := by rw [ha]; rfl
      rw [hD.out]
      clear ha
      clear hi
      obtain ⟨k, fl, fc, tl, tc, ok, hr, hways⟩ := fin_ways (objP L pl pc arg m true)
      have HR := Lib.hid hr
      clear hr
      rcases hways with ⟨rfl, hf⟩ | ⟨rfl, hk, hf⟩ | ⟨rfl, rfl, rfl, rfl, hf⟩ | ⟨rfl, rfl, hne, hf⟩ | ⟨rfl, rfl, rfl, hne, hf⟩
      all_goals (
        rw [hf]
        clear hf
        by_cases hc : cnt = 0
        all_goals (
          have hM := HM.out
          first | (rw [if_pos hc] at hM; subst hc) | rw [if_neg hc] at hM
          subst hM
          go_enter Try.func88, Try.ntmps88
          go_wp2_with fail
          (go_at_call 141; refine (oaround_any _ _ L _ _ _ _ _ (LinesAt.alloc (LinesAt.alloc (LinesAt.alloc (LinesAt.alloc hL _) _) _) _) htot hm2).mono ?_; rw [HR.out]; rintro e w1 ⟨rfl, hbl⟩; obtain ⟨x, rfl⟩ := ovr_of_below hbl; clear hbl)
          go_wp2_with fail
          first
            | (refine bodyPost_ret (v := rngV noR) (by simp [results, Try.results88, go_sem, noR]; done) rfl ⟨rfl, by (repeat (first | with_reducible exact Below.refl _ _ | (with_reducible refine Below.setCell ?_ ?_ _; rotate_left; · (first | exact Nat.le_refl _ | assumption | omega | (simp; done) | (simp; omega))) | (with_reducible refine Below.alloc ?_ ?_ _; rotate_left; · (first | exact Nat.le_refl _ | assumption | omega | (simp; done) | (simp; omega))) | with_reducible refine below_ovr_of ?_ | with_reducible refine drew_below ?_ _ | with_reducible refine Below.drew ?_ | with_reducible assumption))⟩)
            | (refine bodyPost_ret (v := rngV ((k, fl, fc, tl, tc), true)) (by simp [results, Try.results88, go_sem]; done) rfl ⟨by rw [HR.out], by (repeat (first | with_reducible exact Below.refl _ _ | (with_reducible refine Below.setCell ?_ ?_ _; rotate_left; · (first | exact Nat.le_refl _ | assumption | omega | (simp; done) | (simp; omega))) | (with_reducible refine Below.alloc ?_ ?_ _; rotate_left; · (first | exact Nat.le_refl _ | assumption | omega | (simp; done) | (simp; omega))) | with_reducible refine below_ovr_of ?_ | with_reducible refine drew_below ?_ _ | with_reducible refine Below.drew ?_ | with_reducible assumption))⟩)
            | (refine bodyPost_ret (v := rngV ((0, fl, fc, tl, tc), true)) (by simp [results, Try.results88, go_sem]; done) rfl ⟨by rw [HR.out], by (repeat (first | with_reducible exact Below.refl _ _ | (with_reducible refine Below.setCell ?_ ?_ _; rotate_left; · (first | exact Nat.le_refl _ | assumption | omega | (simp; done) | (simp; omega))) | (with_reducible refine Below.alloc ?_ ?_ _; rotate_left; · (first | exact Nat.le_refl _ | assumption | omega | (simp; done) | (simp; omega))) | with_reducible refine below_ovr_of ?_ | with_reducible refine drew_below ?_ _ | with_reducible refine Below.drew ?_ | with_reducible assumption))⟩)
            | (refine bodyPost_ret (v := rngV ((0, fl, fc, fl, tc), true)) (by simp [results, Try.results88, go_sem]; done) rfl ⟨by rw [HR.out], by (repeat (first | with_reducible exact Below.refl _ _ | (with_reducible refine Below.setCell ?_ ?_ _; rotate_left; · (first | exact Nat.le_refl _ | assumption | omega | (simp; done) | (simp; omega))) | (with_reducible refine Below.alloc ?_ ?_ _; rotate_left; · (first | exact Nat.le_refl _ | assumption | omega | (simp; done) | (simp; omega))) | with_reducible refine below_ovr_of ?_ | with_reducible refine drew_below ?_ _ | with_reducible refine Below.drew ?_ | with_reducible assumption))⟩)))
    · have hD := Lib.hid (show doP L pl pc name arg cnt = noR by rw [doP, if_neg hi, if_neg ha])
      have hE2 : (name.toList == [97]) = false := by rw [beq_eq_false_iff_ne]; exact ha
      rw [hD.out]
      clear ha hi
      by_cases hc : cnt = 0
      all_goals (
        first | subst hc | skip
        go_enter Try.func88, Try.ntmps88
        go_wp2_with fail
        refine bodyPost_ret (v := rngV noR) (by simp [results, Try.results88, go_sem, noR]) rfl ⟨rfl, by (repeat (first | with_reducible exact Below.refl _ _ | (with_reducible refine Below.setCell ?_ ?_ _; rotate_left; · (first | exact Nat.le_refl _ | assumption | omega | (simp; done) | (simp; omega))) | (with_reducible refine Below.alloc ?_ ?_ _; rotate_left; · (first | exact Nat.le_refl _ | assumption | omega | (simp; done) | (simp; omega))) | with_reducible refine below_ovr_of ?_ | with_reducible refine drew_below ?_ _ | with_reducible refine Below.drew ?_ | with_reducible assumption))⟩)
end Go.Proofs.Ytlbbgocggifjaaa
namespace Go.Proofs.Ytlbbgocggifjaaa
open Go.RowKit

abbrev L26 : List ByteArray := [⟨#[97, 98, 32, 99, 100]⟩, ⟨#[40, 41]⟩]
theorem known26_1 : doP L26 0 0 ⟨#[105]⟩ 119 0 = ((0, 0, 0, 0, 2), true) := by decide +kernel
theorem known26_2 : doP L26 1 0 ⟨#[105]⟩ 40 0 = ((0, 0, 0, 0, 0), false) := by decide +kernel
set_option maxRecDepth 100000 in
set_option maxHeartbeats 4000000 in
theorem known26_any (w : World) : Calls Try.prog 87 #[] w fun e w' => e = .returned (.bool true) ∧ Below w.heap.size w w' := by
  have hl : LinesAt (w.alloc (.cells #[.string ⟨#[97, 98, 32, 99, 100]⟩, .string ⟨#[40, 41]⟩] 9)) (some ⟨w.heap.size, 0, none⟩) L26 := lines_new _ _ _ (by decide) (by decide) rfl rfl
  go_enter Try.func87, Try.ntmps87
  go_wp2_with fail
  go_at_call 88; refine (odo_any _ _ L26 _ _ _ _ _ _ _ _ _ (by (repeat (first | assumption | refine LinesAt.ovr ?_ _ | refine LinesAt.alloc ?_ _ | refine LinesAt.drewN ?_ _ | refine LinesAt.drew ?_))) (by decide) (by decide)).mono ?_; rw [known26_1]; rintro e w1 ⟨rfl, hbl⟩; obtain ⟨x1, rfl⟩ := ovr_of_below hbl; clear hbl
  go_wp2_with fail
  go_at_call 88; refine (odo_any _ _ L26 _ _ _ _ _ _ _ _ _ (by (repeat (first | assumption | refine LinesAt.ovr ?_ _ | refine LinesAt.alloc ?_ _ | refine LinesAt.drewN ?_ _ | refine LinesAt.drew ?_))) (by decide) (by decide)).mono ?_; rw [known26_2]; rintro e w1 ⟨rfl, hbl⟩; obtain ⟨x2, rfl⟩ := ovr_of_below hbl; clear hbl
  go_wp2_with fail
  go_ret
  exact ⟨by simp, by (repeat (first | with_reducible exact Below.refl _ _ | (with_reducible refine Below.setCell ?_ ?_ _; rotate_left; · (first | exact Nat.le_refl _ | assumption | omega | (simp; done) | (simp; omega))) | (with_reducible refine Below.alloc ?_ ?_ _; rotate_left; · (first | exact Nat.le_refl _ | assumption | omega | (simp; done) | (simp; omega))) | with_reducible refine below_ovr_of ?_ | with_reducible refine drew_below ?_ _ | with_reducible refine Below.drew ?_ | with_reducible assumption))⟩
end Go.Proofs.Ytlbbgocggifjaaa
namespace Go.Proofs.Ytlbbgocggifjaaa
open Go.RowKit

theorem name_i : (⟨#[105]⟩ : ByteArray).toList = [105] := by rw [Go.ByteArray.toList_eq]
theorem name_a : (⟨#[97]⟩ : ByteArray).toList = [97] := by rw [Go.ByteArray.toList_eq]
theorem name_calls' {P : Program} {f : FuncId} {args : Array Value} {w : World} {R : Ending → World → Prop} (h : ∀ W, W = w → Calls P f args W R) : Calls P f args w R := h w rfl
set_option maxRecDepth 100000 in
set_option maxHeartbeats 8000000 in
theorem objectInner_walk (a : Option Addr) (cap : Nat) (L : List ByteArray) (sa sb sk sn : Int) (W : World) (hL : LinesAt W a L) (hsa : 0 ≤ sa ∧ sa ≤ 65535) (hsb : 0 ≤ sb ∧ sb ≤ 65535) (hsk : 0 ≤ sk ∧ sk ≤ 255) :
    Calls Try.prog 20 #[.slice a L.length cap, .int .u16 sa, .int .u16 sb, .int .u8 sk, .int .u8 sn] W fun e W' => e = .returned (.bool true) ∧ Below W.heap.size W W' := by
  cases hli : textB L with
  | false =>
    go_enter Try.func20, Try.ntmps20
    go_wp2_with fail
    go_at_call 87; refine (known26_any _).mono ?_; rintro e w1 ⟨rfl, hbl⟩; obtain ⟨x0, rfl⟩ := ovr_of_below hbl; clear hbl
    go_wp2_with fail
    go_at_call 30; refine (text_any _ _ L _ (by (repeat (first | assumption | refine LinesAt.ovr ?_ _ | refine LinesAt.alloc ?_ _ | refine LinesAt.drewN ?_ _ | refine LinesAt.drew ?_)))).mono ?_; rw [hli]; rintro e w1 ⟨rfl, rfl⟩
    go_wp2_with fail
    go_ret
    exact ⟨rfl, by (repeat (first | with_reducible exact Below.refl _ _ | (with_reducible refine Below.setCell ?_ ?_ _; rotate_left; · (first | exact Nat.le_refl _ | assumption | omega | (simp; done) | (simp; omega))) | (with_reducible refine Below.alloc ?_ ?_ _; rotate_left; · (first | exact Nat.le_refl _ | assumption | omega | (simp; done) | (simp; omega))) | with_reducible refine below_ovr_of ?_ | with_reducible refine drew_below ?_ _ | with_reducible refine Below.drew ?_ | with_reducible assumption))⟩
  | true =>
    obtain ⟨h0, hn, htot, _⟩ := text_spec hli
    obtain ⟨pl, pc, hsl, hsc, hp⟩ := seat_facts (L := L) (x := sa) (y := sb) h0 hsa.1
    have HSL := Lib.hid hsl
    have HSC := Lib.hid hsc
    have HLI := Lib.hid hli
    have hk8 : sk.tmod 8 = sk % 8 := Int.tmod_eq_emod_of_nonneg hsk.1
    have hm8 : sk % 8 = 0 ∨ sk % 8 = 1 ∨ sk % 8 = 2 ∨ sk % 8 = 3 ∨ sk % 8 = 4 ∨ sk % 8 = 5 ∨ sk % 8 = 6 ∨ sk % 8 = 7 := by omega
    have hLt : L.length + total L ≤ 100000 := by omega
    have HIN := Lib.hid (fun (g : Int) (hg : g ≠ 115) => in_do L pl pc g name_i name_a hg)
    clear hsl hsc hli hp
    go_enter Try.func20, Try.ntmps20
    go_wp2_with fail
    go_at_call 87; refine (known26_any _).mono ?_; rintro e w1 ⟨rfl, hbl⟩; obtain ⟨x0, rfl⟩ := ovr_of_below hbl; clear hbl
    go_wp2_with fail
    go_at_call 30; refine (text_any _ _ L _ (by (repeat (first | assumption | refine LinesAt.ovr ?_ _ | refine LinesAt.alloc ?_ _ | refine LinesAt.drewN ?_ _ | refine LinesAt.drew ?_)))).mono ?_; rw [HLI.out]; rintro e w1 ⟨rfl, rfl⟩
    go_wp2_with fail
    go_at_call 31; refine (seat_at _ _ L sa sb _ (by (repeat (first | assumption | refine LinesAt.ovr ?_ _ | refine LinesAt.alloc ?_ _ | refine LinesAt.drewN ?_ _ | refine LinesAt.drew ?_))) h0 hsa hsb HSL HSC).mono ?_; rintro e w1 ⟨rfl, hbl⟩; obtain ⟨x1, rfl⟩ := ovr_of_below hbl; clear hbl
    rcases hm8 with hm8 | hm8 | hm8 | hm8 | hm8 | hm8 | hm8 | hm8
    all_goals (
      rw [hm8] at hk8
      first
        | (have hz : sk % 8 = 0 := hm8; obtain ⟨g, hg, hgne⟩ : ∃ g : Int, (((({ data := #[119, 87, 34, 40, 91, 123, 112, 39] } : ByteArray)[0]'(by decide)).toNat : Nat) : Int) = g ∧ g ≠ 115 := ⟨_, rfl, by decide⟩; clear hz)
        | (have hz : sk % 8 = 1 := hm8; obtain ⟨g, hg, hgne⟩ : ∃ g : Int, (((({ data := #[119, 87, 34, 40, 91, 123, 112, 39] } : ByteArray)[1]'(by decide)).toNat : Nat) : Int) = g ∧ g ≠ 115 := ⟨_, rfl, by decide⟩; clear hz)
        | (have hz : sk % 8 = 2 := hm8; obtain ⟨g, hg, hgne⟩ : ∃ g : Int, (((({ data := #[119, 87, 34, 40, 91, 123, 112, 39] } : ByteArray)[2]'(by decide)).toNat : Nat) : Int) = g ∧ g ≠ 115 := ⟨_, rfl, by decide⟩; clear hz)
        | (have hz : sk % 8 = 3 := hm8; obtain ⟨g, hg, hgne⟩ : ∃ g : Int, (((({ data := #[119, 87, 34, 40, 91, 123, 112, 39] } : ByteArray)[3]'(by decide)).toNat : Nat) : Int) = g ∧ g ≠ 115 := ⟨_, rfl, by decide⟩; clear hz)
        | (have hz : sk % 8 = 4 := hm8; obtain ⟨g, hg, hgne⟩ : ∃ g : Int, (((({ data := #[119, 87, 34, 40, 91, 123, 112, 39] } : ByteArray)[4]'(by decide)).toNat : Nat) : Int) = g ∧ g ≠ 115 := ⟨_, rfl, by decide⟩; clear hz)
        | (have hz : sk % 8 = 5 := hm8; obtain ⟨g, hg, hgne⟩ : ∃ g : Int, (((({ data := #[119, 87, 34, 40, 91, 123, 112, 39] } : ByteArray)[5]'(by decide)).toNat : Nat) : Int) = g ∧ g ≠ 115 := ⟨_, rfl, by decide⟩; clear hz)
        | (have hz : sk % 8 = 6 := hm8; obtain ⟨g, hg, hgne⟩ : ∃ g : Int, (((({ data := #[119, 87, 34, 40, 91, 123, 112, 39] } : ByteArray)[6]'(by decide)).toNat : Nat) : Int) = g ∧ g ≠ 115 := ⟨_, rfl, by decide⟩; clear hz)
        | (have hz : sk % 8 = 7 := hm8; obtain ⟨g, hg, hgne⟩ : ∃ g : Int, (((({ data := #[119, 87, 34, 40, 91, 123, 112, 39] } : ByteArray)[7]'(by decide)).toNat : Nat) : Int) = g ∧ g ≠ 115 := ⟨_, rfl, by decide⟩; clear hz)
      have hin := HIN.out g hgne
      obtain ⟨k, fl, fc, tl, tc, ok, hr⟩ := rng_ways (doP L pl pc ⟨#[105]⟩ g 1)
      obtain ⟨k2, fl2, fc2, tl2, tc2, ok2, hr2⟩ := rng_ways (doP L pl pc ⟨#[97]⟩ g 1)
      rw [hr, hr2] at hin
      have HR := Lib.hid hr
      have HR2 := Lib.hid hr2
      have HI := Lib.hid hin
      clear hr hr2 hin
      go_wp2_with fail
      go_at_call 88; refine (odo_any _ _ L _ _ _ _ _ _ _ _ _ (by (repeat (first | assumption | refine LinesAt.ovr ?_ _ | refine LinesAt.alloc ?_ _ | refine LinesAt.drewN ?_ _ | refine LinesAt.drew ?_))) hLt (by decide)).mono ?_; rw [HR.out]; rintro e w1 ⟨rfl, hbl⟩; obtain ⟨y1, rfl⟩ := ovr_of_below hbl; clear hbl
      go_wp2_with fail
      refine name_calls' ?_
      intro W8 hW8
      have hb8 : Below W.heap.size W W8 := by rw [hW8]; (repeat (first | with_reducible exact Below.refl _ _ | (with_reducible refine Below.setCell ?_ ?_ _; rotate_left; · (first | exact Nat.le_refl _ | assumption | omega | (simp; done) | (simp; omega))) | (with_reducible refine Below.alloc ?_ ?_ _; rotate_left; · (first | exact Nat.le_refl _ | assumption | omega | (simp; done) | (simp; omega))) | with_reducible refine below_ovr_of ?_ | with_reducible refine drew_below ?_ _ | with_reducible refine Below.drew ?_ | with_reducible assumption))
      refine (odo_any _ _ L _ _ _ _ _ _ _ _ _ (hL.below hb8 (Nat.le_refl _)) hLt (by decide)).mono ?_; rw [HR2.out]; rintro e w1 ⟨rfl, hbl⟩
      obtain ⟨bx, hbx⟩ : ∃ bx, W.heap.size + x0.heap.size + x1.heap.size + 1 + 1 + y1.heap.size = bx := ⟨_, rfl⟩
      have g0 : W8.cell? ⟨bx, 0, none⟩ = some (.int .i64 k) := by rw [hW8, ← hbx]; simp [go_sem]
      have g1 : W8.cell? ⟨bx, 1, none⟩ = some (.int .i64 fl) := by rw [hW8, ← hbx]; simp [go_sem]
      have g2 : W8.cell? ⟨bx, 2, none⟩ = some (.int .i64 fc) := by rw [hW8, ← hbx]; simp [go_sem]
      have g3 : W8.cell? ⟨bx, 3, none⟩ = some (.int .i64 tl) := by rw [hW8, ← hbx]; simp [go_sem]
      have g4 : W8.cell? ⟨bx, 4, none⟩ = some (.int .i64 tc) := by rw [hW8, ← hbx]; simp [go_sem]
      have lx : bx < W8.heap.size := by rw [hW8, ← hbx]; simp
      have j0 := (hbl.cell (p := ⟨bx, 0, none⟩) lx).trans g0
      have j1 := (hbl.cell (p := ⟨bx, 1, none⟩) lx).trans g1
      have j2 := (hbl.cell (p := ⟨bx, 2, none⟩) lx).trans g2
      have j3 := (hbl.cell (p := ⟨bx, 3, none⟩) lx).trans g3
      have j4 := (hbl.cell (p := ⟨bx, 4, none⟩) lx).trans g4
      have lx1 := Nat.lt_of_lt_of_le lx hbl.size
      have hb1 := hb8.trans (hbl.mono hb8.size)
      rw [hbx]
      clear hW8 hbx hbl g0 g1 g2 g3 g4 lx hb8
      cases ok with
      | false =>
        go_wp2_with fail
        go_ret
        exact ⟨rfl, hb1.alloc hb1.size _⟩
      | true =>
        cases ok2 with
        | false =>
          go_wp2_with fail
          go_ret
          exact ⟨rfl, hb1.alloc hb1.size _⟩
        | true =>
          obtain ⟨rfl, hq1, hq2⟩ := HI.out rfl rfl
          have HQ1 := Lib.hid hq1
          have HQ2 := Lib.hid hq2
          clear hq1 hq2
          go_wp2_with fail
          go_at_call 72; refine (rless_any _ _ _ _ _).mono ?_; rw [HQ1.out]; rintro e w2 ⟨rfl, hbl⟩; obtain ⟨y2, rfl⟩ := ovr_of_below hbl; clear hbl
          go_wp2_with fail
          go_at_call 72; refine (rless_any _ _ _ _ _).mono ?_; rw [HQ2.out]; rintro e w2 ⟨rfl, hbl⟩; obtain ⟨y3, rfl⟩ := ovr_of_below hbl; clear hbl
          go_wp2_with fail
          go_ret
          exact ⟨by simp, hb1.trans ((by (repeat (first | with_reducible exact Below.refl _ _ | (with_reducible refine Below.setCell ?_ ?_ _; rotate_left; · (first | exact Nat.le_refl _ | assumption | omega | (simp; done) | (simp; omega))) | (with_reducible refine Below.alloc ?_ ?_ _; rotate_left; · (first | exact Nat.le_refl _ | assumption | omega | (simp; done) | (simp; omega))) | with_reducible refine below_ovr_of ?_ | with_reducible refine drew_below ?_ _ | with_reducible refine Below.drew ?_ | with_reducible assumption)) : Below w1.heap.size w1 _).mono hb1.size)⟩)
end Go.Proofs.Ytlbbgocggifjaaa
