/- Several texts in one: RDo4, RDo. Conditions: none beyond what each says. -/
import Derived.Test.YtlbbgocggifjaaaOI40
import Derived.Test.YtlbbgocggifjaaaOD1
import Derived.Test.YtlbbgocggifjaaaOD2
import Derived.Test.YtlbbgocggifjaaaOD4
import Derived.Test.YtlbbgocggifjaaaOD5
import Derived.Test.YtlbbgocggifjaaaOD6
import Derived.Test.YtlbbgocggifjaaaOD7
namespace Go.Proofs.Ytlbbgocggifjaaa
open Go.RowKit

set_option maxRecDepth 100000 in
set_option maxHeartbeats 8000000 in
theorem rdo_a40 (a : Option Addr) (cap : Nat) (L : List ByteArray) (pl pc reg cnt m : Int) (op name text : ByteArray) (w : World) (hL : LinesAt w a L) (htot : L.length + total L ≤ 100000) (hn2 : m ≤ 9223372036854775807) (HM : Hid ((if cnt = 0 then (1 : Int) else cnt) = m)) (hE1 : (name.toList == [105]) = false) (hE2 : (name.toList == [97]) = true) :
    Calls Try.prog 89 #[.slice a L.length cap, .agg #[.int .i64 pl, .int .i64 pc], .agg #[.int .u8 reg, .int .i64 cnt, .string op, .string name, .int .u8 40, .string text]] w fun e w' => e = .returned (rngV (finR (objP L pl pc 40 m true))) ∧ Below w.heap.size w w' := by
  rw [objP_b (by decide)]
  obtain ⟨k, fl, fc, tl, tc, ok, hr, hways⟩ := fin_ways (bracketP L pl pc 40 m true)
  have HR := Lib.hid hr
  obtain ⟨F, hF⟩ : ∃ F, finR (bracketP L pl pc 40 m true) = F := ⟨_, rfl⟩
  rw [hF] at hways ⊢
  rw [hr] at hways
  have HW := Lib.hid hways
  clear hr hways hF
  by_cases hc : cnt = 0
  all_goals (
    have hM := HM.out
    first | (rw [if_pos hc] at hM; subst hc) | rw [if_neg hc] at hM
    subst hM
    clear HM
    go_enter Try.func89, Try.ntmps89
    go_wp2_with fail
    go_at_call 55; refine (rbaround_any _ _ L _ _ _ _ _ (by (repeat (first | assumption | refine LinesAt.ovr ?_ _ | refine LinesAt.alloc ?_ _ | refine LinesAt.drewN ?_ _ | refine LinesAt.drew ?_))) (by omega) (by omega)).mono ?_; rw [HR.out]; rintro e w1 ⟨rfl, hbl⟩; obtain ⟨x, rfl⟩ := ovr_of_below hbl; clear hbl
    have hways := HW.out
    clear HW
    rcases hways with ⟨rfl, hf⟩ | ⟨rfl, hk, hf⟩ | ⟨rfl, rfl, rfl, rfl, hf⟩ | ⟨rfl, rfl, hne, hf⟩ | ⟨rfl, rfl, rfl, hne, hf⟩
    all_goals (
        subst hf
        go_wp2_with fail
        first
          | (refine bodyPost_ret (v := rngV noR) (by simp [results, Try.results89, go_sem, noR]; done) rfl ⟨rfl, by (repeat (first | with_reducible exact Below.refl _ _ | (with_reducible refine Below.setCell ?_ ?_ _; rotate_left; · (first | exact Nat.le_refl _ | assumption | omega | (simp; done) | (simp; omega))) | (with_reducible refine Below.alloc ?_ ?_ _; rotate_left; · (first | exact Nat.le_refl _ | assumption | omega | (simp; done) | (simp; omega))) | with_reducible refine below_ovr_of ?_ | with_reducible refine drew_below ?_ _ | with_reducible refine Below.drew ?_ | with_reducible assumption))⟩)
          | (refine bodyPost_ret (v := rngV ((k, fl, fc, tl, tc), true)) (by simp [results, Try.results89, go_sem]; done) rfl ⟨rfl, by (repeat (first | with_reducible exact Below.refl _ _ | (with_reducible refine Below.setCell ?_ ?_ _; rotate_left; · (first | exact Nat.le_refl _ | assumption | omega | (simp; done) | (simp; omega))) | (with_reducible refine Below.alloc ?_ ?_ _; rotate_left; · (first | exact Nat.le_refl _ | assumption | omega | (simp; done) | (simp; omega))) | with_reducible refine below_ovr_of ?_ | with_reducible refine drew_below ?_ _ | with_reducible refine Below.drew ?_ | with_reducible assumption))⟩)
          | (refine bodyPost_ret (v := rngV ((0, fl, fc, tl, tc), true)) (by simp [results, Try.results89, go_sem]; done) rfl ⟨rfl, by (repeat (first | with_reducible exact Below.refl _ _ | (with_reducible refine Below.setCell ?_ ?_ _; rotate_left; · (first | exact Nat.le_refl _ | assumption | omega | (simp; done) | (simp; omega))) | (with_reducible refine Below.alloc ?_ ?_ _; rotate_left; · (first | exact Nat.le_refl _ | assumption | omega | (simp; done) | (simp; omega))) | with_reducible refine below_ovr_of ?_ | with_reducible refine drew_below ?_ _ | with_reducible refine Below.drew ?_ | with_reducible assumption))⟩)
          | (refine bodyPost_ret (v := rngV ((0, fl, fc, fl, tc), true)) (by simp [results, Try.results89, go_sem]; done) rfl ⟨rfl, by (repeat (first | with_reducible exact Below.refl _ _ | (with_reducible refine Below.setCell ?_ ?_ _; rotate_left; · (first | exact Nat.le_refl _ | assumption | omega | (simp; done) | (simp; omega))) | (with_reducible refine Below.alloc ?_ ?_ _; rotate_left; · (first | exact Nat.le_refl _ | assumption | omega | (simp; done) | (simp; omega))) | with_reducible refine below_ovr_of ?_ | with_reducible refine drew_below ?_ _ | with_reducible refine Below.drew ?_ | with_reducible assumption))⟩)))
set_option maxRecDepth 100000 in
set_option maxHeartbeats 8000000 in
theorem rdo_a91 (a : Option Addr) (cap : Nat) (L : List ByteArray) (pl pc reg cnt m : Int) (op name text : ByteArray) (w : World) (hL : LinesAt w a L) (htot : L.length + total L ≤ 100000) (hn2 : m ≤ 9223372036854775807) (HM : Hid ((if cnt = 0 then (1 : Int) else cnt) = m)) (hE1 : (name.toList == [105]) = false) (hE2 : (name.toList == [97]) = true) :
    Calls Try.prog 89 #[.slice a L.length cap, .agg #[.int .i64 pl, .int .i64 pc], .agg #[.int .u8 reg, .int .i64 cnt, .string op, .string name, .int .u8 91, .string text]] w fun e w' => e = .returned (rngV (finR (objP L pl pc 91 m true))) ∧ Below w.heap.size w w' := by
  rw [objP_b (by decide)]
  obtain ⟨k, fl, fc, tl, tc, ok, hr, hways⟩ := fin_ways (bracketP L pl pc 91 m true)
  have HR := Lib.hid hr
  obtain ⟨F, hF⟩ : ∃ F, finR (bracketP L pl pc 91 m true) = F := ⟨_, rfl⟩
  rw [hF] at hways ⊢
  rw [hr] at hways
  have HW := Lib.hid hways
  clear hr hways hF
  by_cases hc : cnt = 0
  all_goals (
    have hM := HM.out
    first | (rw [if_pos hc] at hM; subst hc) | rw [if_neg hc] at hM
    subst hM
    clear HM
    go_enter Try.func89, Try.ntmps89
    go_wp2_with fail
    go_at_call 55; refine (rbaround_any _ _ L _ _ _ _ _ (by (repeat (first | assumption | refine LinesAt.ovr ?_ _ | refine LinesAt.alloc ?_ _ | refine LinesAt.drewN ?_ _ | refine LinesAt.drew ?_))) (by omega) (by omega)).mono ?_; rw [HR.out]; rintro e w1 ⟨rfl, hbl⟩; obtain ⟨x, rfl⟩ := ovr_of_below hbl; clear hbl
    have hways := HW.out
    clear HW
    rcases hways with ⟨rfl, hf⟩ | ⟨rfl, hk, hf⟩ | ⟨rfl, rfl, rfl, rfl, hf⟩ | ⟨rfl, rfl, hne, hf⟩ | ⟨rfl, rfl, rfl, hne, hf⟩
    all_goals (
        subst hf
        go_wp2_with fail
        first
          | (refine bodyPost_ret (v := rngV noR) (by simp [results, Try.results89, go_sem, noR]; done) rfl ⟨rfl, by (repeat (first | with_reducible exact Below.refl _ _ | (with_reducible refine Below.setCell ?_ ?_ _; rotate_left; · (first | exact Nat.le_refl _ | assumption | omega | (simp; done) | (simp; omega))) | (with_reducible refine Below.alloc ?_ ?_ _; rotate_left; · (first | exact Nat.le_refl _ | assumption | omega | (simp; done) | (simp; omega))) | with_reducible refine below_ovr_of ?_ | with_reducible refine drew_below ?_ _ | with_reducible refine Below.drew ?_ | with_reducible assumption))⟩)
          | (refine bodyPost_ret (v := rngV ((k, fl, fc, tl, tc), true)) (by simp [results, Try.results89, go_sem]; done) rfl ⟨rfl, by (repeat (first | with_reducible exact Below.refl _ _ | (with_reducible refine Below.setCell ?_ ?_ _; rotate_left; · (first | exact Nat.le_refl _ | assumption | omega | (simp; done) | (simp; omega))) | (with_reducible refine Below.alloc ?_ ?_ _; rotate_left; · (first | exact Nat.le_refl _ | assumption | omega | (simp; done) | (simp; omega))) | with_reducible refine below_ovr_of ?_ | with_reducible refine drew_below ?_ _ | with_reducible refine Below.drew ?_ | with_reducible assumption))⟩)
          | (refine bodyPost_ret (v := rngV ((0, fl, fc, tl, tc), true)) (by simp [results, Try.results89, go_sem]; done) rfl ⟨rfl, by (repeat (first | with_reducible exact Below.refl _ _ | (with_reducible refine Below.setCell ?_ ?_ _; rotate_left; · (first | exact Nat.le_refl _ | assumption | omega | (simp; done) | (simp; omega))) | (with_reducible refine Below.alloc ?_ ?_ _; rotate_left; · (first | exact Nat.le_refl _ | assumption | omega | (simp; done) | (simp; omega))) | with_reducible refine below_ovr_of ?_ | with_reducible refine drew_below ?_ _ | with_reducible refine Below.drew ?_ | with_reducible assumption))⟩)
          | (refine bodyPost_ret (v := rngV ((0, fl, fc, fl, tc), true)) (by simp [results, Try.results89, go_sem]; done) rfl ⟨rfl, by (repeat (first | with_reducible exact Below.refl _ _ | (with_reducible refine Below.setCell ?_ ?_ _; rotate_left; · (first | exact Nat.le_refl _ | assumption | omega | (simp; done) | (simp; omega))) | (with_reducible refine Below.alloc ?_ ?_ _; rotate_left; · (first | exact Nat.le_refl _ | assumption | omega | (simp; done) | (simp; omega))) | with_reducible refine below_ovr_of ?_ | with_reducible refine drew_below ?_ _ | with_reducible refine Below.drew ?_ | with_reducible assumption))⟩)))
set_option maxRecDepth 100000 in
set_option maxHeartbeats 8000000 in
theorem rdo_a123 (a : Option Addr) (cap : Nat) (L : List ByteArray) (pl pc reg cnt m : Int) (op name text : ByteArray) (w : World) (hL : LinesAt w a L) (htot : L.length + total L ≤ 100000) (hn2 : m ≤ 9223372036854775807) (HM : Hid ((if cnt = 0 then (1 : Int) else cnt) = m)) (hE1 : (name.toList == [105]) = false) (hE2 : (name.toList == [97]) = true) :
    Calls Try.prog 89 #[.slice a L.length cap, .agg #[.int .i64 pl, .int .i64 pc], .agg #[.int .u8 reg, .int .i64 cnt, .string op, .string name, .int .u8 123, .string text]] w fun e w' => e = .returned (rngV (finR (objP L pl pc 123 m true))) ∧ Below w.heap.size w w' := by
  rw [objP_b (by decide)]
  obtain ⟨k, fl, fc, tl, tc, ok, hr, hways⟩ := fin_ways (bracketP L pl pc 123 m true)
  have HR := Lib.hid hr
  obtain ⟨F, hF⟩ : ∃ F, finR (bracketP L pl pc 123 m true) = F := ⟨_, rfl⟩
  rw [hF] at hways ⊢
  rw [hr] at hways
  have HW := Lib.hid hways
  clear hr hways hF
  by_cases hc : cnt = 0
  all_goals (
    have hM := HM.out
    first | (rw [if_pos hc] at hM; subst hc) | rw [if_neg hc] at hM
    subst hM
    clear HM
    go_enter Try.func89, Try.ntmps89
    go_wp2_with fail
    go_at_call 55; refine (rbaround_any _ _ L _ _ _ _ _ (by (repeat (first | assumption | refine LinesAt.ovr ?_ _ | refine LinesAt.alloc ?_ _ | refine LinesAt.drewN ?_ _ | refine LinesAt.drew ?_))) (by omega) (by omega)).mono ?_; rw [HR.out]; rintro e w1 ⟨rfl, hbl⟩; obtain ⟨x, rfl⟩ := ovr_of_below hbl; clear hbl
    have hways := HW.out
    clear HW
    rcases hways with ⟨rfl, hf⟩ | ⟨rfl, hk, hf⟩ | ⟨rfl, rfl, rfl, rfl, hf⟩ | ⟨rfl, rfl, hne, hf⟩ | ⟨rfl, rfl, rfl, hne, hf⟩
    all_goals (
        subst hf
        go_wp2_with fail
        first
          | (refine bodyPost_ret (v := rngV noR) (by simp [results, Try.results89, go_sem, noR]; done) rfl ⟨rfl, by (repeat (first | with_reducible exact Below.refl _ _ | (with_reducible refine Below.setCell ?_ ?_ _; rotate_left; · (first | exact Nat.le_refl _ | assumption | omega | (simp; done) | (simp; omega))) | (with_reducible refine Below.alloc ?_ ?_ _; rotate_left; · (first | exact Nat.le_refl _ | assumption | omega | (simp; done) | (simp; omega))) | with_reducible refine below_ovr_of ?_ | with_reducible refine drew_below ?_ _ | with_reducible refine Below.drew ?_ | with_reducible assumption))⟩)
          | (refine bodyPost_ret (v := rngV ((k, fl, fc, tl, tc), true)) (by simp [results, Try.results89, go_sem]; done) rfl ⟨rfl, by (repeat (first | with_reducible exact Below.refl _ _ | (with_reducible refine Below.setCell ?_ ?_ _; rotate_left; · (first | exact Nat.le_refl _ | assumption | omega | (simp; done) | (simp; omega))) | (with_reducible refine Below.alloc ?_ ?_ _; rotate_left; · (first | exact Nat.le_refl _ | assumption | omega | (simp; done) | (simp; omega))) | with_reducible refine below_ovr_of ?_ | with_reducible refine drew_below ?_ _ | with_reducible refine Below.drew ?_ | with_reducible assumption))⟩)
          | (refine bodyPost_ret (v := rngV ((0, fl, fc, tl, tc), true)) (by simp [results, Try.results89, go_sem]; done) rfl ⟨rfl, by (repeat (first | with_reducible exact Below.refl _ _ | (with_reducible refine Below.setCell ?_ ?_ _; rotate_left; · (first | exact Nat.le_refl _ | assumption | omega | (simp; done) | (simp; omega))) | (with_reducible refine Below.alloc ?_ ?_ _; rotate_left; · (first | exact Nat.le_refl _ | assumption | omega | (simp; done) | (simp; omega))) | with_reducible refine below_ovr_of ?_ | with_reducible refine drew_below ?_ _ | with_reducible refine Below.drew ?_ | with_reducible assumption))⟩)
          | (refine bodyPost_ret (v := rngV ((0, fl, fc, fl, tc), true)) (by simp [results, Try.results89, go_sem]; done) rfl ⟨rfl, by (repeat (first | with_reducible exact Below.refl _ _ | (with_reducible refine Below.setCell ?_ ?_ _; rotate_left; · (first | exact Nat.le_refl _ | assumption | omega | (simp; done) | (simp; omega))) | (with_reducible refine Below.alloc ?_ ?_ _; rotate_left; · (first | exact Nat.le_refl _ | assumption | omega | (simp; done) | (simp; omega))) | with_reducible refine below_ovr_of ?_ | with_reducible refine drew_below ?_ _ | with_reducible refine Below.drew ?_ | with_reducible assumption))⟩)))
set_option maxRecDepth 100000 in
set_option maxHeartbeats 8000000 in
theorem rdo_a112 (a : Option Addr) (cap : Nat) (L : List ByteArray) (pl pc reg cnt m : Int) (op name text : ByteArray) (w : World) (hL : LinesAt w a L) (htot : L.length + total L ≤ 100000) (hn2 : m ≤ 9223372036854775807) (HM : Hid ((if cnt = 0 then (1 : Int) else cnt) = m)) (hE1 : (name.toList == [105]) = false) (hE2 : (name.toList == [97]) = true) :
    Calls Try.prog 89 #[.slice a L.length cap, .agg #[.int .i64 pl, .int .i64 pc], .agg #[.int .u8 reg, .int .i64 cnt, .string op, .string name, .int .u8 112, .string text]] w fun e w' => e = .returned (rngV (finR (objP L pl pc 112 m true))) ∧ Below w.heap.size w w' := by
  rw [objP_p]
  obtain ⟨k, fl, fc, tl, tc, ok, hr, hways⟩ := fin_ways (paraOP L pl pc m true)
  have HR := Lib.hid hr
  obtain ⟨F, hF⟩ : ∃ F, finR (paraOP L pl pc m true) = F := ⟨_, rfl⟩
  rw [hF] at hways ⊢
  rw [hr] at hways
  have HW := Lib.hid hways
  clear hr hways hF
  obtain ⟨k0, fl0, fc0, tl0, tc0, ok0, hr0⟩ := rng_ways (paraOP L pl pc m false)
  have HR0 := Lib.hid hr0
  clear hr0
  by_cases hc : cnt = 0
  all_goals (
    have hM := HM.out
    first | (rw [if_pos hc] at hM; subst hc) | rw [if_neg hc] at hM
    subst hM
    clear HM
    go_enter Try.func89, Try.ntmps89
    go_wp2_with fail
    go_at_call 82; refine (rpinner_any _ _ L _ _ _ _ (by (repeat (first | assumption | refine LinesAt.ovr ?_ _ | refine LinesAt.alloc ?_ _ | refine LinesAt.drewN ?_ _ | refine LinesAt.drew ?_))) (by omega) (by omega)).mono ?_; rw [HR0.out]; rintro e w1 ⟨rfl, hbl⟩; obtain ⟨x0, rfl⟩ := ovr_of_below hbl; clear hbl
    go_wp2_with fail
    go_at_call 84; refine (rparound_any _ _ L _ _ _ _ (by (repeat (first | assumption | refine LinesAt.ovr ?_ _ | refine LinesAt.alloc ?_ _ | refine LinesAt.drewN ?_ _ | refine LinesAt.drew ?_))) (by omega) (by omega)).mono ?_; rw [HR.out]; rintro e w1 ⟨rfl, hbl⟩; obtain ⟨x, rfl⟩ := ovr_of_below hbl; clear hbl
    have hways := HW.out
    clear HW
    rcases hways with ⟨rfl, hf⟩ | ⟨rfl, hk, hf⟩ | ⟨rfl, rfl, rfl, rfl, hf⟩ | ⟨rfl, rfl, hne, hf⟩ | ⟨rfl, rfl, rfl, hne, hf⟩
    all_goals (
        subst hf
        go_wp2_with fail
        first
          | (refine bodyPost_ret (v := rngV noR) (by simp [results, Try.results89, go_sem, noR]; done) rfl ⟨rfl, by (repeat (first | with_reducible exact Below.refl _ _ | (with_reducible refine Below.setCell ?_ ?_ _; rotate_left; · (first | exact Nat.le_refl _ | assumption | omega | (simp; done) | (simp; omega))) | (with_reducible refine Below.alloc ?_ ?_ _; rotate_left; · (first | exact Nat.le_refl _ | assumption | omega | (simp; done) | (simp; omega))) | with_reducible refine below_ovr_of ?_ | with_reducible refine drew_below ?_ _ | with_reducible refine Below.drew ?_ | with_reducible assumption))⟩)
          | (refine bodyPost_ret (v := rngV ((k, fl, fc, tl, tc), true)) (by simp [results, Try.results89, go_sem]; done) rfl ⟨rfl, by (repeat (first | with_reducible exact Below.refl _ _ | (with_reducible refine Below.setCell ?_ ?_ _; rotate_left; · (first | exact Nat.le_refl _ | assumption | omega | (simp; done) | (simp; omega))) | (with_reducible refine Below.alloc ?_ ?_ _; rotate_left; · (first | exact Nat.le_refl _ | assumption | omega | (simp; done) | (simp; omega))) | with_reducible refine below_ovr_of ?_ | with_reducible refine drew_below ?_ _ | with_reducible refine Below.drew ?_ | with_reducible assumption))⟩)
          | (refine bodyPost_ret (v := rngV ((0, fl, fc, tl, tc), true)) (by simp [results, Try.results89, go_sem]; done) rfl ⟨rfl, by (repeat (first | with_reducible exact Below.refl _ _ | (with_reducible refine Below.setCell ?_ ?_ _; rotate_left; · (first | exact Nat.le_refl _ | assumption | omega | (simp; done) | (simp; omega))) | (with_reducible refine Below.alloc ?_ ?_ _; rotate_left; · (first | exact Nat.le_refl _ | assumption | omega | (simp; done) | (simp; omega))) | with_reducible refine below_ovr_of ?_ | with_reducible refine drew_below ?_ _ | with_reducible refine Below.drew ?_ | with_reducible assumption))⟩)
          | (refine bodyPost_ret (v := rngV ((0, fl, fc, fl, tc), true)) (by simp [results, Try.results89, go_sem]; done) rfl ⟨rfl, by (repeat (first | with_reducible exact Below.refl _ _ | (with_reducible refine Below.setCell ?_ ?_ _; rotate_left; · (first | exact Nat.le_refl _ | assumption | omega | (simp; done) | (simp; omega))) | (with_reducible refine Below.alloc ?_ ?_ _; rotate_left; · (first | exact Nat.le_refl _ | assumption | omega | (simp; done) | (simp; omega))) | with_reducible refine below_ovr_of ?_ | with_reducible refine drew_below ?_ _ | with_reducible refine Below.drew ?_ | with_reducible assumption))⟩)))
set_option maxRecDepth 100000 in
set_option maxHeartbeats 8000000 in
theorem rdo_a115 (a : Option Addr) (cap : Nat) (L : List ByteArray) (pl pc reg cnt m : Int) (op name text : ByteArray) (w : World) (hL : LinesAt w a L) (htot : L.length + total L ≤ 100000) (hn2 : m ≤ 9223372036854775807) (HM : Hid ((if cnt = 0 then (1 : Int) else cnt) = m)) (hE1 : (name.toList == [105]) = false) (hE2 : (name.toList == [97]) = true) :
    Calls Try.prog 89 #[.slice a L.length cap, .agg #[.int .i64 pl, .int .i64 pc], .agg #[.int .u8 reg, .int .i64 cnt, .string op, .string name, .int .u8 115, .string text]] w fun e w' => e = .returned (rngV (finR (objP L pl pc 115 m true))) ∧ Below w.heap.size w w' := by
  rw [objP_s]
  obtain ⟨k, fl, fc, tl, tc, ok, hr, hways⟩ := fin_ways (sObjP L pl pc true)
  have HR := Lib.hid hr
  obtain ⟨F, hF⟩ : ∃ F, finR (sObjP L pl pc true) = F := ⟨_, rfl⟩
  rw [hF] at hways ⊢
  rw [hr] at hways
  have HW := Lib.hid hways
  clear hr hways hF
  by_cases hc : cnt = 0
  all_goals (
    have hM := HM.out
    first | (rw [if_pos hc] at hM; subst hc) | rw [if_neg hc] at hM
    subst hM
    clear HM
    go_enter Try.func89, Try.ntmps89
    go_wp2_with fail
    go_at_call 86; refine (rsobj_any _ _ L _ _ _ _ (by (repeat (first | assumption | refine LinesAt.ovr ?_ _ | refine LinesAt.alloc ?_ _ | refine LinesAt.drewN ?_ _ | refine LinesAt.drew ?_))) (by omega)).mono ?_; rw [HR.out]; rintro e w1 ⟨rfl, hbl⟩; obtain ⟨x, rfl⟩ := ovr_of_below hbl; clear hbl
    have hways := HW.out
    clear HW
    rcases hways with ⟨rfl, hf⟩ | ⟨rfl, hk, hf⟩ | ⟨rfl, rfl, rfl, rfl, hf⟩ | ⟨rfl, rfl, hne, hf⟩ | ⟨rfl, rfl, rfl, hne, hf⟩
    all_goals (
        subst hf
        go_wp2_with fail
        first
          | (refine bodyPost_ret (v := rngV noR) (by simp [results, Try.results89, go_sem, noR]; done) rfl ⟨rfl, by (repeat (first | with_reducible exact Below.refl _ _ | (with_reducible refine Below.setCell ?_ ?_ _; rotate_left; · (first | exact Nat.le_refl _ | assumption | omega | (simp; done) | (simp; omega))) | (with_reducible refine Below.alloc ?_ ?_ _; rotate_left; · (first | exact Nat.le_refl _ | assumption | omega | (simp; done) | (simp; omega))) | with_reducible refine below_ovr_of ?_ | with_reducible refine drew_below ?_ _ | with_reducible refine Below.drew ?_ | with_reducible assumption))⟩)
          | (refine bodyPost_ret (v := rngV ((k, fl, fc, tl, tc), true)) (by simp [results, Try.results89, go_sem]; done) rfl ⟨rfl, by (repeat (first | with_reducible exact Below.refl _ _ | (with_reducible refine Below.setCell ?_ ?_ _; rotate_left; · (first | exact Nat.le_refl _ | assumption | omega | (simp; done) | (simp; omega))) | (with_reducible refine Below.alloc ?_ ?_ _; rotate_left; · (first | exact Nat.le_refl _ | assumption | omega | (simp; done) | (simp; omega))) | with_reducible refine below_ovr_of ?_ | with_reducible refine drew_below ?_ _ | with_reducible refine Below.drew ?_ | with_reducible assumption))⟩)
          | (refine bodyPost_ret (v := rngV ((0, fl, fc, tl, tc), true)) (by simp [results, Try.results89, go_sem]; done) rfl ⟨rfl, by (repeat (first | with_reducible exact Below.refl _ _ | (with_reducible refine Below.setCell ?_ ?_ _; rotate_left; · (first | exact Nat.le_refl _ | assumption | omega | (simp; done) | (simp; omega))) | (with_reducible refine Below.alloc ?_ ?_ _; rotate_left; · (first | exact Nat.le_refl _ | assumption | omega | (simp; done) | (simp; omega))) | with_reducible refine below_ovr_of ?_ | with_reducible refine drew_below ?_ _ | with_reducible refine Below.drew ?_ | with_reducible assumption))⟩)
          | (refine bodyPost_ret (v := rngV ((0, fl, fc, fl, tc), true)) (by simp [results, Try.results89, go_sem]; done) rfl ⟨rfl, by (repeat (first | with_reducible exact Below.refl _ _ | (with_reducible refine Below.setCell ?_ ?_ _; rotate_left; · (first | exact Nat.le_refl _ | assumption | omega | (simp; done) | (simp; omega))) | (with_reducible refine Below.alloc ?_ ?_ _; rotate_left; · (first | exact Nat.le_refl _ | assumption | omega | (simp; done) | (simp; omega))) | with_reducible refine below_ovr_of ?_ | with_reducible refine drew_below ?_ _ | with_reducible refine Below.drew ?_ | with_reducible assumption))⟩)))
end Go.Proofs.Ytlbbgocggifjaaa
namespace Go.Proofs.Ytlbbgocggifjaaa
open Go.RowKit

theorem fin_noR : finR noR = noR := rfl
set_option maxRecDepth 100000 in
set_option maxHeartbeats 8000000 in
theorem rdo_any (a : Option Addr) (cap : Nat) (L : List ByteArray) (pl pc reg cnt arg : Int) (op name text : ByteArray) (w : World) (hL : LinesAt w a L) (htot : L.length + total L ≤ 100000) (hn2 : cnt ≤ 9223372036854775807) :
    Calls Try.prog 89 #[.slice a L.length cap, .agg #[.int .i64 pl, .int .i64 pc], .agg #[.int .u8 reg, .int .i64 cnt, .string op, .string name, .int .u8 arg, .string text]] w fun e w' => e = .returned (rngV (doP L pl pc name arg cnt)) ∧ Below w.heap.size w w' := by
  obtain ⟨m, hm⟩ : ∃ m, (if cnt = 0 then (1 : Int) else cnt) = m := ⟨_, rfl⟩
  have hm2 : m ≤ 9223372036854775807 := by rw [← hm]; split <;> omega
  have HM := Lib.hid hm
  by_cases hi : name.toList = [105]
  · have hD : doP L pl pc name arg cnt = finR (objP L pl pc arg m false) := by rw [doP, if_pos hi, hm]
    have hE1 : (name.toList == [105]) = true := by rw [hi]; rfl
    have hE2 : (name.toList == [97]) = false := by rw [hi]; rfl
    rw [hD]
    clear hi hm hD
    by_cases h119 : arg = 119
    · subst h119; exact rdo_i119 a cap L pl pc reg cnt m op name text w hL htot hm2 HM hE1 hE2
    by_cases h87 : arg = 87
    · subst h87; exact rdo_i87 a cap L pl pc reg cnt m op name text w hL htot hm2 HM hE1 hE2
    by_cases h34 : arg = 34
    · subst h34; exact rdo_i34 a cap L pl pc reg cnt m op name text w hL htot hm2 HM hE1 hE2
    by_cases h39 : arg = 39
    · subst h39; exact rdo_i39 a cap L pl pc reg cnt m op name text w hL htot hm2 HM hE1 hE2
    by_cases h96 : arg = 96
    · subst h96; exact rdo_i96 a cap L pl pc reg cnt m op name text w hL htot hm2 HM hE1 hE2
    by_cases h40 : arg = 40
    · subst h40; exact rdo_i40 a cap L pl pc reg cnt m op name text w hL htot hm2 HM hE1 hE2
    by_cases h91 : arg = 91
    · subst h91; exact rdo_i91 a cap L pl pc reg cnt m op name text w hL htot hm2 HM hE1 hE2
    by_cases h123 : arg = 123
    · subst h123; exact rdo_i123 a cap L pl pc reg cnt m op name text w hL htot hm2 HM hE1 hE2
    by_cases h112 : arg = 112
    · subst h112; exact rdo_i112 a cap L pl pc reg cnt m op name text w hL htot hm2 HM hE1 hE2
    by_cases h115 : arg = 115
    · subst h115; exact rdo_i115 a cap L pl pc reg cnt m op name text w hL htot hm2 HM hE1 hE2
    rw [objP_no (by omega), fin_noR]
    by_cases hc : cnt = 0
    all_goals (
      first | subst hc | skip
      go_enter Try.func89, Try.ntmps89
      go_wp2_with fail
      refine bodyPost_ret (v := rngV noR) (by simp [results, Try.results89, go_sem, noR]) rfl ⟨rfl, by (repeat (first | with_reducible exact Below.refl _ _ | (with_reducible refine Below.setCell ?_ ?_ _; rotate_left; · (first | exact Nat.le_refl _ | assumption | omega | (simp; done) | (simp; omega))) | (with_reducible refine Below.alloc ?_ ?_ _; rotate_left; · (first | exact Nat.le_refl _ | assumption | omega | (simp; done) | (simp; omega))) | with_reducible refine below_ovr_of ?_ | with_reducible refine drew_below ?_ _ | with_reducible refine Below.drew ?_ | with_reducible assumption))⟩)
  · have hE1 : (name.toList == [105]) = false := by rw [beq_eq_false_iff_ne]; exact hi
    by_cases ha : name.toList = [97]
    · have hD : doP L pl pc name arg cnt = finR (objP L pl pc arg m true) := by rw [doP, if_neg hi, if_pos ha, hm]
      have hE2 : (name.toList == [97]) = true := by rw [ha]; rfl
      rw [hD]
      clear hi ha hm hD
      by_cases h119 : arg = 119
      · subst h119; exact rdo_a119 a cap L pl pc reg cnt m op name text w hL htot hm2 HM hE1 hE2
      by_cases h87 : arg = 87
      · subst h87; exact rdo_a87 a cap L pl pc reg cnt m op name text w hL htot hm2 HM hE1 hE2
      by_cases h34 : arg = 34
      · subst h34; exact rdo_a34 a cap L pl pc reg cnt m op name text w hL htot hm2 HM hE1 hE2
      by_cases h39 : arg = 39
      · subst h39; exact rdo_a39 a cap L pl pc reg cnt m op name text w hL htot hm2 HM hE1 hE2
      by_cases h96 : arg = 96
      · subst h96; exact rdo_a96 a cap L pl pc reg cnt m op name text w hL htot hm2 HM hE1 hE2
      by_cases h40 : arg = 40
      · subst h40; exact rdo_a40 a cap L pl pc reg cnt m op name text w hL htot hm2 HM hE1 hE2
      by_cases h91 : arg = 91
      · subst h91; exact rdo_a91 a cap L pl pc reg cnt m op name text w hL htot hm2 HM hE1 hE2
      by_cases h123 : arg = 123
      · subst h123; exact rdo_a123 a cap L pl pc reg cnt m op name text w hL htot hm2 HM hE1 hE2
      by_cases h112 : arg = 112
      · subst h112; exact rdo_a112 a cap L pl pc reg cnt m op name text w hL htot hm2 HM hE1 hE2
      by_cases h115 : arg = 115
      · subst h115; exact rdo_a115 a cap L pl pc reg cnt m op name text w hL htot hm2 HM hE1 hE2
      rw [objP_no (by omega), fin_noR]
      by_cases hc : cnt = 0
      all_goals (
        first | subst hc | skip
        go_enter Try.func89, Try.ntmps89
        go_wp2_with fail
        refine bodyPost_ret (v := rngV noR) (by simp [results, Try.results89, go_sem, noR]) rfl ⟨rfl, by (repeat (first | with_reducible exact Below.refl _ _ | (with_reducible refine Below.setCell ?_ ?_ _; rotate_left; · (first | exact Nat.le_refl _ | assumption | omega | (simp; done) | (simp; omega))) | (with_reducible refine Below.alloc ?_ ?_ _; rotate_left; · (first | exact Nat.le_refl _ | assumption | omega | (simp; done) | (simp; omega))) | with_reducible refine below_ovr_of ?_ | with_reducible refine drew_below ?_ _ | with_reducible refine Below.drew ?_ | with_reducible assumption))⟩)
    · have hD : doP L pl pc name arg cnt = noR := by rw [doP, if_neg hi, if_neg ha]
      have hE2 : (name.toList == [97]) = false := by rw [beq_eq_false_iff_ne]; exact ha
      rw [hD]
      clear hi ha hm hD HM
      by_cases hc : cnt = 0
      all_goals (
        first | subst hc | skip
        go_enter Try.func89, Try.ntmps89
        go_wp2_with fail
        refine bodyPost_ret (v := rngV noR) (by simp [results, Try.results89, go_sem, noR]) rfl ⟨rfl, by (repeat (first | with_reducible exact Below.refl _ _ | (with_reducible refine Below.setCell ?_ ?_ _; rotate_left; · (first | exact Nat.le_refl _ | assumption | omega | (simp; done) | (simp; omega))) | (with_reducible refine Below.alloc ?_ ?_ _; rotate_left; · (first | exact Nat.le_refl _ | assumption | omega | (simp; done) | (simp; omega))) | with_reducible refine below_ovr_of ?_ | with_reducible refine drew_below ?_ _ | with_reducible refine Below.drew ?_ | with_reducible assumption))⟩)
end Go.Proofs.Ytlbbgocggifjaaa
