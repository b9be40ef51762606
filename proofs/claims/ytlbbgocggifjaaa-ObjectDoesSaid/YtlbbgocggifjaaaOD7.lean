/- Several texts in one: RDo3. Conditions: none beyond what each says. -/
import Derived.Test.YtlbbgocggifjaaaOI40
import Derived.Test.YtlbbgocggifjaaaOD1
import Derived.Test.YtlbbgocggifjaaaOD2
import Derived.Test.YtlbbgocggifjaaaOD4
import Derived.Test.YtlbbgocggifjaaaOD5
namespace Go.Proofs.Ytlbbgocggifjaaa
open Go.RowKit

set_option maxRecDepth 100000 in
set_option maxHeartbeats 8000000 in
theorem rdo_a119 (a : Option Addr) (cap : Nat) (L : List ByteArray) (pl pc reg cnt m : Int) (op name text : ByteArray) (w : World) (hL : LinesAt w a L) (htot : L.length + total L ≤ 100000) (hn2 : m ≤ 9223372036854775807) (HM : Hid ((if cnt = 0 then (1 : Int) else cnt) = m)) (hE1 : (name.toList == [105]) = false) (hE2 : (name.toList == [97]) = true) :
    Calls Try.prog 89 #[.slice a L.length cap, .agg #[.int .i64 pl, .int .i64 pc], .agg #[.int .u8 reg, .int .i64 cnt, .string op, .string name, .int .u8 119, .string text]] w fun e w' => e = .returned (rngV (finR (objP L pl pc 119 m true))) ∧ Below w.heap.size w w' := by
  rw [objP_w]
  obtain ⟨k, fl, fc, tl, tc, ok, hr, hways⟩ := fin_ways (wordP L pl pc m false true)
  have HR := Lib.hid hr
  obtain ⟨F, hF⟩ : ∃ F, finR (wordP L pl pc m false true) = F := ⟨_, rfl⟩
  rw [hF] at hways ⊢
  rw [hr] at hways
  have HW := Lib.hid hways
  clear hr hways hF
  obtain ⟨k0, fl0, fc0, tl0, tc0, ok0, hr0⟩ := rng_ways (wordP L pl pc m false false)
  have HR0 := Lib.hid hr0
  clear hr0
  by_cases hc : cnt = 0
  all_goals (
    have hM := HM.out
    first | (rw [if_pos hc] at hM; subst hc) | rw [if_neg hc] at hM
    subst hM
    clear HM
    go_enter Try.func89, Try.ntmps89
    go_wp2_with fail
    go_at_call 41; refine (rwinner_any _ _ L _ _ _ _ _ (by (repeat (first | assumption | refine LinesAt.ovr ?_ _ | refine LinesAt.alloc ?_ _ | refine LinesAt.drewN ?_ _ | refine LinesAt.drew ?_))) (by omega)).mono ?_; rw [HR0.out]; rintro e w1 ⟨rfl, hbl⟩; obtain ⟨x0, rfl⟩ := ovr_of_below hbl; clear hbl
    go_wp2_with fail
    go_at_call 43; refine (rwaround_any _ _ L _ _ _ _ _ (by (repeat (first | assumption | refine LinesAt.ovr ?_ _ | refine LinesAt.alloc ?_ _ | refine LinesAt.drewN ?_ _ | refine LinesAt.drew ?_))) (by omega)).mono ?_; rw [HR.out]; rintro e w1 ⟨rfl, hbl⟩; obtain ⟨x, rfl⟩ := ovr_of_below hbl; clear hbl
    have hways := HW.out
    clear HW
    rcases hways with ⟨rfl, hf⟩ | ⟨rfl, hk, hf⟩ | ⟨rfl, rfl, rfl, rfl, hf⟩ | ⟨rfl, rfl, hne, hf⟩ | ⟨rfl, rfl, rfl, hne, hf⟩
    all_goals (
        subst hf
        go_wp2_with fail
        first
          | (refine bodyPost_ret (v := rngV noR) (by simp [results, Try.results89, go_sem, noR]; done) rfl ⟨rfl, by (repeat (first | with_reducible exact Below.refl _ _ | (with_reducible refine Below.setCell ?_ ?_ _; rotate_left; · (first | exact Nat.le_refl _ | assumption | omega | (simp; done) | (simp; omega))) | (with_reducible refine Below.alloc ?_ ?_ _; rotate_left; · (first | exact Nat.le_refl _ | assumption | omega | (simp; done) | (simp; omega))) | with_reducible refine below_ovr_of ?_ | with_reducible refine drew_below ?_ _ | with_reducible refine Below.drew ?_ | with_reducible assumption))⟩)
          | (refine bodyPost_ret (v := rngV ((k, fl, fc, tl, tc), true)) (by simp [results, Try.results89, go_sem]; done) rfl ⟨rfl, by (repeat (first | with_reducible exact Below.refl _ _ | (with_reducible refine Below.setCell ?_ ?_ _; rotate_left; · (first | exact Nat.le_refl _ | assumption | omega | (simp; done) | (simp; omega))) | (with_reducible refine Below.alloc ?_ ?_ _; rotate_left; · (first | exact Nat.le_refl _ | assumption | omega | (simp; done) | (simp; omega))) | with_reducible refine below_ovr_of ?_ | with_reducible refine drew_below ?_ _ | with_reducible refine Below.drew ?_ | with_reducible assumption))⟩)
          | (refine bodyPost_ret (v := rngV ((0, fl, fc, tl, tc), true)) (by simp [results, Try.results89, go_sem]; done) rfl ⟨rfl, by (repeat (first | with_reducible exact Below.refl _ _ | (with_reducible refine Below.setCell ?_ ?_ _; rotate_left; · (first | exact Nat.le_refl _ | assumption | omega | (simp; done) | (simp; omega))) | (with_reducible refine Below.alloc ?_ ?_ _; rotate_left; · (first | exact Nat.le_refl _ | assumption | omega | (simp; done) | (simp; omega))) | with_reducible refine below_ovr_of ?_ | with_reducible refine drew_below ?_ _ | with_reducible refine Below.drew ?_ | with_reducible assumption))⟩)
          | (refine bodyPost_ret (v := rngV ((0, fl, fc, fl, tc), true)) (by simp [results, Try.results89, go_sem]; done) rfl ⟨rfl, by (repeat (first | with_reducible exact Below.refl _ _ | (with_reducible refine Below.setCell ?_ ?_ _; rotate_left; · (first | exact Nat.le_refl _ | assumption | omega | (simp; done) | (simp; omega))) | (with_reducible refine Below.alloc ?_ ?_ _; rotate_left; · (first | exact Nat.le_refl _ | assumption | omega | (simp; done) | (simp; omega))) | with_reducible refine below_ovr_of ?_ | with_reducible refine drew_below ?_ _ | with_reducible refine Below.drew ?_ | with_reducible assumption))⟩)))
set_option maxRecDepth 100000 in
set_option maxHeartbeats 8000000 in
theorem rdo_a87 (a : Option Addr) (cap : Nat) (L : List ByteArray) (pl pc reg cnt m : Int) (op name text : ByteArray) (w : World) (hL : LinesAt w a L) (htot : L.length + total L ≤ 100000) (hn2 : m ≤ 9223372036854775807) (HM : Hid ((if cnt = 0 then (1 : Int) else cnt) = m)) (hE1 : (name.toList == [105]) = false) (hE2 : (name.toList == [97]) = true) :
    Calls Try.prog 89 #[.slice a L.length cap, .agg #[.int .i64 pl, .int .i64 pc], .agg #[.int .u8 reg, .int .i64 cnt, .string op, .string name, .int .u8 87, .string text]] w fun e w' => e = .returned (rngV (finR (objP L pl pc 87 m true))) ∧ Below w.heap.size w w' := by
  rw [objP_W]
  obtain ⟨k, fl, fc, tl, tc, ok, hr, hways⟩ := fin_ways (wordP L pl pc m true true)
  have HR := Lib.hid hr
  obtain ⟨F, hF⟩ : ∃ F, finR (wordP L pl pc m true true) = F := ⟨_, rfl⟩
  rw [hF] at hways ⊢
  rw [hr] at hways
  have HW := Lib.hid hways
  clear hr hways hF
  obtain ⟨k0, fl0, fc0, tl0, tc0, ok0, hr0⟩ := rng_ways (wordP L pl pc m true false)
  have HR0 := Lib.hid hr0
  clear hr0
  by_cases hc : cnt = 0
  all_goals (
    have hM := HM.out
    first | (rw [if_pos hc] at hM; subst hc) | rw [if_neg hc] at hM
    subst hM
    clear HM
    go_enter Try.func89, Try.ntmps89
    go_wp2_with fail
    go_at_call 41; refine (rwinner_any _ _ L _ _ _ _ _ (by (repeat (first | assumption | refine LinesAt.ovr ?_ _ | refine LinesAt.alloc ?_ _ | refine LinesAt.drewN ?_ _ | refine LinesAt.drew ?_))) (by omega)).mono ?_; rw [HR0.out]; rintro e w1 ⟨rfl, hbl⟩; obtain ⟨x0, rfl⟩ := ovr_of_below hbl; clear hbl
    go_wp2_with fail
    go_at_call 43; refine (rwaround_any _ _ L _ _ _ _ _ (by (repeat (first | assumption | refine LinesAt.ovr ?_ _ | refine LinesAt.alloc ?_ _ | refine LinesAt.drewN ?_ _ | refine LinesAt.drew ?_))) (by omega)).mono ?_; rw [HR.out]; rintro e w1 ⟨rfl, hbl⟩; obtain ⟨x, rfl⟩ := ovr_of_below hbl; clear hbl
    have hways := HW.out
    clear HW
    rcases hways with ⟨rfl, hf⟩ | ⟨rfl, hk, hf⟩ | ⟨rfl, rfl, rfl, rfl, hf⟩ | ⟨rfl, rfl, hne, hf⟩ | ⟨rfl, rfl, rfl, hne, hf⟩
    all_goals (
        subst hf
        go_wp2_with fail
        first
          | (refine bodyPost_ret (v := rngV noR) (by simp [results, Try.results89, go_sem, noR]; done) rfl ⟨rfl, by (repeat (first | with_reducible exact Below.refl _ _ | (with_reducible refine Below.setCell ?_ ?_ _; rotate_left; · (first | exact Nat.le_refl _ | assumption | omega | (simp; done) | (simp; omega))) | (with_reducible refine Below.alloc ?_ ?_ _; rotate_left; · (first | exact Nat.le_refl _ | assumption | omega | (simp; done) | (simp; omega))) | with_reducible refine below_ovr_of ?_ | with_reducible refine drew_below ?_ _ | with_reducible refine Below.drew ?_ | with_reducible assumption))⟩)
          | (refine bodyPost_ret (v := rngV ((k, fl, fc, tl, tc), true)) (by simp [results, Try.results89, go_sem]; done) rfl ⟨rfl, by (repeat (first | with_reducible exact Below.refl _ _ | (with_reducible refine Below.setCell ?_ ?_ _; rotate_left; · (first | exact Nat.le_refl _ | assumption | omega | (simp; done) | (simp; omega))) | (with_reducible refine Below.alloc ?_ ?_ _; rotate_left; · (first | exact Nat.le_refl _ | assumption | omega | (simp; done) | (simp; omega))) | with_reducible refine below_ovr_of ?_ | with_reducible refine drew_below ?_ _ | with_reducible refine Below.drew ?_ | with_reducible assumption))⟩)
          | (refine bodyPost_ret (v := rngV ((0, fl, fc, tl, tc), true)) (by simp [results, Try.results89, go_sem]; done) rfl ⟨rfl, by (repeat (first | with_reducible exact Below.refl _ _ | (with_reducible refine Below.setCell ?_ ?_ _; rotate_left; · (first | exact Nat.le_refl _ | assumption | omega | (simp; done) | (simp; omega))) | (with_reducible refine Below.alloc ?_ ?_ _; rotate_left; · (first | exact Nat.le_refl _ | assumption | omega | (simp; done) | (simp; omega))) | with_reducible refine below_ovr_of ?_ | with_reducible refine drew_below ?_ _ | with_reducible refine Below.drew ?_ | with_reducible assumption))⟩)
          | (refine bodyPost_ret (v := rngV ((0, fl, fc, fl, tc), true)) (by simp [results, Try.results89, go_sem]; done) rfl ⟨rfl, by (repeat (first | with_reducible exact Below.refl _ _ | (with_reducible refine Below.setCell ?_ ?_ _; rotate_left; · (first | exact Nat.le_refl _ | assumption | omega | (simp; done) | (simp; omega))) | (with_reducible refine Below.alloc ?_ ?_ _; rotate_left; · (first | exact Nat.le_refl _ | assumption | omega | (simp; done) | (simp; omega))) | with_reducible refine below_ovr_of ?_ | with_reducible refine drew_below ?_ _ | with_reducible refine Below.drew ?_ | with_reducible assumption))⟩)))
set_option maxRecDepth 100000 in
set_option maxHeartbeats 8000000 in
theorem rdo_a34 (a : Option Addr) (cap : Nat) (L : List ByteArray) (pl pc reg cnt m : Int) (op name text : ByteArray) (w : World) (hL : LinesAt w a L) (htot : L.length + total L ≤ 100000) (hn2 : m ≤ 9223372036854775807) (HM : Hid ((if cnt = 0 then (1 : Int) else cnt) = m)) (hE1 : (name.toList == [105]) = false) (hE2 : (name.toList == [97]) = true) :
    Calls Try.prog 89 #[.slice a L.length cap, .agg #[.int .i64 pl, .int .i64 pc], .agg #[.int .u8 reg, .int .i64 cnt, .string op, .string name, .int .u8 34, .string text]] w fun e w' => e = .returned (rngV (finR (objP L pl pc 34 m true))) ∧ Below w.heap.size w w' := by
  rw [objP_q (by decide)]
  obtain ⟨k, fl, fc, tl, tc, ok, hr, hways⟩ := fin_ways (quoteP L pl pc 34 true)
  have HR := Lib.hid hr
  obtain ⟨F, hF⟩ : ∃ F, finR (quoteP L pl pc 34 true) = F := ⟨_, rfl⟩
  rw [hF] at hways ⊢
  rw [hr] at hways
  have HW := Lib.hid hways
  clear hr hways hF
  by_cases hc : cnt = 0
  all_goals (
    have hM := HM.out
    first | (rw [if_pos hc] at hM; subst hc) | rw [if_neg hc] at hM
    subst hM
    clear HM
    go_enter Try.func89, Try.ntmps89
    go_wp2_with fail
    go_at_call 33; refine (rqaround_any _ _ L _ _ _ _ (by (repeat (first | assumption | refine LinesAt.ovr ?_ _ | refine LinesAt.alloc ?_ _ | refine LinesAt.drewN ?_ _ | refine LinesAt.drew ?_))) (by omega)).mono ?_; rw [HR.out]; rintro e w1 ⟨rfl, hbl⟩; obtain ⟨x, rfl⟩ := ovr_of_below hbl; clear hbl
    have hways := HW.out
    clear HW
    rcases hways with ⟨rfl, hf⟩ | ⟨rfl, hk, hf⟩ | ⟨rfl, rfl, rfl, rfl, hf⟩ | ⟨rfl, rfl, hne, hf⟩ | ⟨rfl, rfl, rfl, hne, hf⟩
    all_goals (
        subst hf
        go_wp2_with fail
        first
          | (refine bodyPost_ret (v := rngV noR) (by simp [results, Try.results89, go_sem, noR]; done) rfl ⟨rfl, by (repeat (first | with_reducible exact Below.refl _ _ | (with_reducible refine Below.setCell ?_ ?_ _; rotate_left; · (first | exact Nat.le_refl _ | assumption | omega | (simp; done) | (simp; omega))) | (with_reducible refine Below.alloc ?_ ?_ _; rotate_left; · (first | exact Nat.le_refl _ | assumption | omega | (simp; done) | (simp; omega))) | with_reducible refine below_ovr_of ?_ | with_reducible refine drew_below ?_ _ | with_reducible refine Below.drew ?_ | with_reducible assumption))⟩)
          | (refine bodyPost_ret (v := rngV ((k, fl, fc, tl, tc), true)) (by simp [results, Try.results89, go_sem]; done) rfl ⟨rfl, by (repeat (first | with_reducible exact Below.refl _ _ | (with_reducible refine Below.setCell ?_ ?_ _; rotate_left; · (first | exact Nat.le_refl _ | assumption | omega | (simp; done) | (simp; omega))) | (with_reducible refine Below.alloc ?_ ?_ _; rotate_left; · (first | exact Nat.le_refl _ | assumption | omega | (simp; done) | (simp; omega))) | with_reducible refine below_ovr_of ?_ | with_reducible refine drew_below ?_ _ | with_reducible refine Below.drew ?_ | with_reducible assumption))⟩)
          | (refine bodyPost_ret (v := rngV ((0, fl, fc, tl, tc), true)) (by simp [results, Try.results89, go_sem]; done) rfl ⟨rfl, by (repeat (first | with_reducible exact Below.refl _ _ | (with_reducible refine Below.setCell ?_ ?_ _; rotate_left; · (first | exact Nat.le_refl _ | assumption | omega | (simp; done) | (simp; omega))) | (with_reducible refine Below.alloc ?_ ?_ _; rotate_left; · (first | exact Nat.le_refl _ | assumption | omega | (simp; done) | (simp; omega))) | with_reducible refine below_ovr_of ?_ | with_reducible refine drew_below ?_ _ | with_reducible refine Below.drew ?_ | with_reducible assumption))⟩)
          | (refine bodyPost_ret (v := rngV ((0, fl, fc, fl, tc), true)) (by simp [results, Try.results89, go_sem]; done) rfl ⟨rfl, by (repeat (first | with_reducible exact Below.refl _ _ | (with_reducible refine Below.setCell ?_ ?_ _; rotate_left; · (first | exact Nat.le_refl _ | assumption | omega | (simp; done) | (simp; omega))) | (with_reducible refine Below.alloc ?_ ?_ _; rotate_left; · (first | exact Nat.le_refl _ | assumption | omega | (simp; done) | (simp; omega))) | with_reducible refine below_ovr_of ?_ | with_reducible refine drew_below ?_ _ | with_reducible refine Below.drew ?_ | with_reducible assumption))⟩)))
set_option maxRecDepth 100000 in
set_option maxHeartbeats 8000000 in
theorem rdo_a39 (a : Option Addr) (cap : Nat) (L : List ByteArray) (pl pc reg cnt m : Int) (op name text : ByteArray) (w : World) (hL : LinesAt w a L) (htot : L.length + total L ≤ 100000) (hn2 : m ≤ 9223372036854775807) (HM : Hid ((if cnt = 0 then (1 : Int) else cnt) = m)) (hE1 : (name.toList == [105]) = false) (hE2 : (name.toList == [97]) = true) :
    Calls Try.prog 89 #[.slice a L.length cap, .agg #[.int .i64 pl, .int .i64 pc], .agg #[.int .u8 reg, .int .i64 cnt, .string op, .string name, .int .u8 39, .string text]] w fun e w' => e = .returned (rngV (finR (objP L pl pc 39 m true))) ∧ Below w.heap.size w w' := by
  rw [objP_q (by decide)]
  obtain ⟨k, fl, fc, tl, tc, ok, hr, hways⟩ := fin_ways (quoteP L pl pc 39 true)
  have HR := Lib.hid hr
  obtain ⟨F, hF⟩ : ∃ F, finR (quoteP L pl pc 39 true) = F := ⟨_, rfl⟩
  rw [hF] at hways ⊢
  rw [hr] at hways
  have HW := Lib.hid hways
  clear hr hways hF
  by_cases hc : cnt = 0
  all_goals (
    have hM := HM.out
    first | (rw [if_pos hc] at hM; subst hc) | rw [if_neg hc] at hM
    subst hM
    clear HM
    go_enter Try.func89, Try.ntmps89
    go_wp2_with fail
    go_at_call 33; refine (rqaround_any _ _ L _ _ _ _ (by (repeat (first | assumption | refine LinesAt.ovr ?_ _ | refine LinesAt.alloc ?_ _ | refine LinesAt.drewN ?_ _ | refine LinesAt.drew ?_))) (by omega)).mono ?_; rw [HR.out]; rintro e w1 ⟨rfl, hbl⟩; obtain ⟨x, rfl⟩ := ovr_of_below hbl; clear hbl
    have hways := HW.out
    clear HW
    rcases hways with ⟨rfl, hf⟩ | ⟨rfl, hk, hf⟩ | ⟨rfl, rfl, rfl, rfl, hf⟩ | ⟨rfl, rfl, hne, hf⟩ | ⟨rfl, rfl, rfl, hne, hf⟩
    all_goals (
        subst hf
        go_wp2_with fail
        first
          | (refine bodyPost_ret (v := rngV noR) (by simp [results, Try.results89, go_sem, noR]; done) rfl ⟨rfl, by (repeat (first | with_reducible exact Below.refl _ _ | (with_reducible refine Below.setCell ?_ ?_ _; rotate_left; · (first | exact Nat.le_refl _ | assumption | omega | (simp; done) | (simp; omega))) | (with_reducible refine Below.alloc ?_ ?_ _; rotate_left; · (first | exact Nat.le_refl _ | assumption | omega | (simp; done) | (simp; omega))) | with_reducible refine below_ovr_of ?_ | with_reducible refine drew_below ?_ _ | with_reducible refine Below.drew ?_ | with_reducible assumption))⟩)
          | (refine bodyPost_ret (v := rngV ((k, fl, fc, tl, tc), true)) (by simp [results, Try.results89, go_sem]; done) rfl ⟨rfl, by (repeat (first | with_reducible exact Below.refl _ _ | (with_reducible refine Below.setCell ?_ ?_ _; rotate_left; · (first | exact Nat.le_refl _ | assumption | omega | (simp; done) | (simp; omega))) | (with_reducible refine Below.alloc ?_ ?_ _; rotate_left; · (first | exact Nat.le_refl _ | assumption | omega | (simp; done) | (simp; omega))) | with_reducible refine below_ovr_of ?_ | with_reducible refine drew_below ?_ _ | with_reducible refine Below.drew ?_ | with_reducible assumption))⟩)
          | (refine bodyPost_ret (v := rngV ((0, fl, fc, tl, tc), true)) (by simp [results, Try.results89, go_sem]; done) rfl ⟨rfl, by (repeat (first | with_reducible exact Below.refl _ _ | (with_reducible refine Below.setCell ?_ ?_ _; rotate_left; · (first | exact Nat.le_refl _ | assumption | omega | (simp; done) | (simp; omega))) | (with_reducible refine Below.alloc ?_ ?_ _; rotate_left; · (first | exact Nat.le_refl _ | assumption | omega | (simp; done) | (simp; omega))) | with_reducible refine below_ovr_of ?_ | with_reducible refine drew_below ?_ _ | with_reducible refine Below.drew ?_ | with_reducible assumption))⟩)
          | (refine bodyPost_ret (v := rngV ((0, fl, fc, fl, tc), true)) (by simp [results, Try.results89, go_sem]; done) rfl ⟨rfl, by (repeat (first | with_reducible exact Below.refl _ _ | (with_reducible refine Below.setCell ?_ ?_ _; rotate_left; · (first | exact Nat.le_refl _ | assumption | omega | (simp; done) | (simp; omega))) | (with_reducible refine Below.alloc ?_ ?_ _; rotate_left; · (first | exact Nat.le_refl _ | assumption | omega | (simp; done) | (simp; omega))) | with_reducible refine below_ovr_of ?_ | with_reducible refine drew_below ?_ _ | with_reducible refine Below.drew ?_ | with_reducible assumption))⟩)))
set_option maxRecDepth 100000 in
set_option maxHeartbeats 8000000 in
theorem rdo_a96 (a : Option Addr) (cap : Nat) (L : List ByteArray) (pl pc reg cnt m : Int) (op name text : ByteArray) (w : World) (hL : LinesAt w a L) (htot : L.length + total L ≤ 100000) (hn2 : m ≤ 9223372036854775807) (HM : Hid ((if cnt = 0 then (1 : Int) else cnt) = m)) (hE1 : (name.toList == [105]) = false) (hE2 : (name.toList == [97]) = true) :
    Calls Try.prog 89 #[.slice a L.length cap, .agg #[.int .i64 pl, .int .i64 pc], .agg #[.int .u8 reg, .int .i64 cnt, .string op, .string name, .int .u8 96, .string text]] w fun e w' => e = .returned (rngV (finR (objP L pl pc 96 m true))) ∧ Below w.heap.size w w' := by
  rw [objP_q (by decide)]
  obtain ⟨k, fl, fc, tl, tc, ok, hr, hways⟩ := fin_ways (quoteP L pl pc 96 true)
  have HR := Lib.hid hr
  obtain ⟨F, hF⟩ : ∃ F, finR (quoteP L pl pc 96 true) = F := ⟨_, rfl⟩
  rw [hF] at hways ⊢
  rw [hr] at hways
  have HW := Lib.hid hways
  clear hr hways hF
  by_cases hc : cnt = 0
  all_goals (
    have hM := HM.out
    first | (rw [if_pos hc] at hM; subst hc) | rw [if_neg hc] at hM
    subst hM
    clear HM
    go_enter Try.func89, Try.ntmps89
    go_wp2_with fail
    go_at_call 33; refine (rqaround_any _ _ L _ _ _ _ (by (repeat (first | assumption | refine LinesAt.ovr ?_ _ | refine LinesAt.alloc ?_ _ | refine LinesAt.drewN ?_ _ | refine LinesAt.drew ?_))) (by omega)).mono ?_; rw [HR.out]; rintro e w1 ⟨rfl, hbl⟩; obtain ⟨x, rfl⟩ := ovr_of_below hbl; clear hbl
    have hways := HW.out
    clear HW
    rcases hways with ⟨rfl, hf⟩ | ⟨rfl, hk, hf⟩ | ⟨rfl, rfl, rfl, rfl, hf⟩ | ⟨rfl, rfl, hne, hf⟩ | ⟨rfl, rfl, rfl, hne, hf⟩
    all_goals (
        subst hf
        go_wp2_with fail
        first
          | (refine bodyPost_ret (v := rngV noR) (by simp [results, Try.results89, go_sem, noR]; done) rfl ⟨rfl, by (repeat (first | with_reducible exact Below.refl _ _ | (with_reducible refine Below.setCell ?_ ?_ _; rotate_left; · (first | exact Nat.le_refl _ | assumption | omega | (simp; done) | (simp; omega))) | (with_reducible refine Below.alloc ?_ ?_ _; rotate_left; · (first | exact Nat.le_refl _ | assumption | omega | (simp; done) | (simp; omega))) | with_reducible refine below_ovr_of ?_ | with_reducible refine drew_below ?_ _ | with_reducible refine Below.drew ?_ | with_reducible assumption))⟩)
          | (refine bodyPost_ret (v := rngV ((k, fl, fc, tl, tc), true)) (by simp [results, Try.results89, go_sem]; done) rfl ⟨rfl, by (repeat (first | with_reducible exact Below.refl _ _ | (with_reducible refine Below.setCell ?_ ?_ _; rotate_left; · (first | exact Nat.le_refl _ | assumption | omega | (simp; done) | (simp; omega))) | (with_reducible refine Below.alloc ?_ ?_ _; rotate_left; · (first | exact Nat.le_refl _ | assumption | omega | (simp; done) | (simp; omega))) | with_reducible refine below_ovr_of ?_ | with_reducible refine drew_below ?_ _ | with_reducible refine Below.drew ?_ | with_reducible assumption))⟩)
          | (refine bodyPost_ret (v := rngV ((0, fl, fc, tl, tc), true)) (by simp [results, Try.results89, go_sem]; done) rfl ⟨rfl, by (repeat (first | with_reducible exact Below.refl _ _ | (with_reducible refine Below.setCell ?_ ?_ _; rotate_left; · (first | exact Nat.le_refl _ | assumption | omega | (simp; done) | (simp; omega))) | (with_reducible refine Below.alloc ?_ ?_ _; rotate_left; · (first | exact Nat.le_refl _ | assumption | omega | (simp; done) | (simp; omega))) | with_reducible refine below_ovr_of ?_ | with_reducible refine drew_below ?_ _ | with_reducible refine Below.drew ?_ | with_reducible assumption))⟩)
          | (refine bodyPost_ret (v := rngV ((0, fl, fc, fl, tc), true)) (by simp [results, Try.results89, go_sem]; done) rfl ⟨rfl, by (repeat (first | with_reducible exact Below.refl _ _ | (with_reducible refine Below.setCell ?_ ?_ _; rotate_left; · (first | exact Nat.le_refl _ | assumption | omega | (simp; done) | (simp; omega))) | (with_reducible refine Below.alloc ?_ ?_ _; rotate_left; · (first | exact Nat.le_refl _ | assumption | omega | (simp; done) | (simp; omega))) | with_reducible refine below_ovr_of ?_ | with_reducible refine drew_below ?_ _ | with_reducible refine Below.drew ?_ | with_reducible assumption))⟩)))
end Go.Proofs.Ytlbbgocggifjaaa
