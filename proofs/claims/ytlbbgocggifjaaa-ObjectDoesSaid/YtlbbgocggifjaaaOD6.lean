/- Several texts in one: RDo1, RDo2. Conditions: none beyond what each says. -/
import Derived.Test.YtlbbgocggifjaaaOI40
import Derived.Test.YtlbbgocggifjaaaOD1
import Derived.Test.YtlbbgocggifjaaaOD2
import Derived.Test.YtlbbgocggifjaaaOD4
import Derived.Test.YtlbbgocggifjaaaOD5
namespace Go.Proofs.Ytlbbgocggifjaaa
open Go.RowKit

set_option maxRecDepth 100000 in
set_option maxHeartbeats 8000000 in
theorem rdo_i119 (a : Option Addr) (cap : Nat) (L : List ByteArray) (pl pc reg cnt m : Int) (op name text : ByteArray) (w : World) (hL : LinesAt w a L) (htot : L.length + total L ≤ 100000) (hn2 : m ≤ 9223372036854775807) (HM : Hid ((if cnt = 0 then (1 : Int) else cnt) = m)) (hE1 : (name.toList == [105]) = true) (hE2 : (name.toList == [97]) = false) :
    Calls Try.prog 89 #[.slice a L.length cap, .agg #[.int .i64 pl, .int .i64 pc], .agg #[.int .u8 reg, .int .i64 cnt, .string op, .string name, .int .u8 119, .string text]] w fun e w' => e = .returned (rngV (finR (objP L pl pc 119 m false))) ∧ Below w.heap.size w w' := by
  rw [objP_w]
  obtain ⟨k, fl, fc, tl, tc, ok, hr, hways⟩ := fin_ways (wordP L pl pc m false false)
  have HR := Lib.hid hr
  obtain ⟨F, hF⟩ : ∃ F, finR (wordP L pl pc m false false) = F := ⟨_, rfl⟩
  rw [hF] at hways ⊢
  rw [hr] at hways
  have HW := Lib.hid hways
  clear hr hways hF
  by_cases hc : cnt = 0
  all_goals (
    have hM := HM.out
    first | (rw [if_pos hc] at hM; subst hc) | rw [if_neg hc] at hM
    subst hM
    clear HM
    go_enter Try.func89, Try.ntmps89
    go_wp2_with fail
    go_at_call 41; refine (rwinner_any _ _ L _ _ _ _ _ (by (repeat (first | assumption | refine LinesAt.ovr ?_ _ | refine LinesAt.alloc ?_ _ | refine LinesAt.drewN ?_ _ | refine LinesAt.drew ?_))) (by omega)).mono ?_; rw [HR.out]; rintro e w1 ⟨rfl, hbl⟩; obtain ⟨x, rfl⟩ := ovr_of_below hbl; clear hbl
    have hways := HW.out
    clear HW
    rcases hways with ⟨rfl, hf⟩ | ⟨rfl, hk, hf⟩ | ⟨rfl, rfl, rfl, rfl, hf⟩ | ⟨rfl, rfl, hne, hf⟩ | ⟨rfl, rfl, rfl, hne, hf⟩
    all_goals (
        subst hf
        go_wp2_with fail
        first
          | (refine bodyPost_ret (v := rngV noR) (by simp [results, Try.results89, go_sem, noR]; done) rfl ⟨rfl, by (repeat (first | with_reducible exact Below.refl _ _ | (with_reducible refine Below.setCell ?_ ?_ _; rotate_left; · (first | exact Nat.le_refl _ | assumption | omega | (simp; done) | (simp; omega))) | (with_reducible refine Below.alloc ?_ ?_ _; rotate_left; · (first | exact Nat.le_refl _ | assumption | omega | (simp; done) | (simp; omega))) | with_reducible refine below_ovr_of ?_ | with_reducible refine drew_below ?_ _ | with_reducible refine Below.drew ?_ | with_reducible assumption))⟩)
          | (refine bodyPost_ret (v := rngV ((k, fl, fc, tl, tc), true)) (by simp [results, Try.results89, go_sem]; done) rfl ⟨rfl, by (repeat (first | with_reducible exact Below.refl _ _ | (with_reducible refine Below.setCell ?_ ?_ _; rotate_left; · (first | exact Nat.le_refl _ | assumption | omega | (simp; done) | (simp; omega))) | (with_reducible refine Below.alloc ?_ ?_ _; rotate_left; · (first | exact Nat.le_refl _ | assumption | omega | (simp; done) | (simp; omega))) | with_reducible refine below_ovr_of ?_ | with_reducible refine drew_below ?_ _ | with_reducible refine Below.drew ?_ | with_reducible assumption))⟩)
          | (refine bodyPost_ret (v := rngV ((0, fl, fc, tl, tc), true)) (by simp [results, Try.results89, go_sem]; done) rfl ⟨rfl, by (repeat (first | with_reducible exact Below.refl _ _ | (with_reducible refine Below.setCell ?_ ?_ _; rotate_left; · (first | exact Nat.le_refl _ | assumption | omega | (simp; done) | (simp; omega))) | (with_reducible refine Below.alloc ?_ ?_ _; rotate_left; · (first | exact Nat.le_refl _ | assumption | omega | (simp; done) | (simp; omega))) | with_reducible refine below_ovr_of ?_ | with_reducible refine drew_below ?_ _ | with_reducible refine Below.drew ?_ | with_reducible assumption))⟩)
          | (refine bodyPost_ret (v := rngV ((0, fl, fc, fl, tc), true)) (by simp [results, Try.results89, go_sem]; done) rfl ⟨rfl, by (repeat (first | with_reducible exact Below.refl _ _ | (with_reducible refine Below.setCell ?_ ?_ _; rotate_left; · (first | exact Nat.le_refl _ | assumption | omega | (simp; done) | (simp; omega))) | (with_reducible refine Below.alloc ?_ ?_ _; rotate_left; · (first | exact Nat.le_refl _ | assumption | omega | (simp; done) | (simp; omega))) | with_reducible refine below_ovr_of ?_ | with_reducible refine drew_below ?_ _ | with_reducible refine Below.drew ?_ | with_reducible assumption))⟩)))
set_option maxRecDepth 100000 in
set_option maxHeartbeats 8000000 in
theorem rdo_i87 (a : Option Addr) (cap : Nat) (L : List ByteArray) (pl pc reg cnt m : Int) (op name text : ByteArray) (w : World) (hL : LinesAt w a L) (htot : L.length + total L ≤ 100000) (hn2 : m ≤ 9223372036854775807) (HM : Hid ((if cnt = 0 then (1 : Int) else cnt) = m)) (hE1 : (name.toList == [105]) = true) (hE2 : (name.toList == [97]) = false) :
    Calls Try.prog 89 #[.slice a L.length cap, .agg #[.int .i64 pl, .int .i64 pc], .agg #[.int .u8 reg, .int .i64 cnt, .string op, .string name, .int .u8 87, .string text]] w fun e w' => e = .returned (rngV (finR (objP L pl pc 87 m false))) ∧ Below w.heap.size w w' := by
  rw [objP_W]
  obtain ⟨k, fl, fc, tl, tc, ok, hr, hways⟩ := fin_ways (wordP L pl pc m true false)
  have HR := Lib.hid hr
  obtain ⟨F, hF⟩ : ∃ F, finR (wordP L pl pc m true false) = F := ⟨_, rfl⟩
  rw [hF] at hways ⊢
  rw [hr] at hways
  have HW := Lib.hid hways
  clear hr hways hF
  by_cases hc : cnt = 0
  all_goals (
    have hM := HM.out
    first | (rw [if_pos hc] at hM; subst hc) | rw [if_neg hc] at hM
    subst hM
    clear HM
    go_enter Try.func89, Try.ntmps89
    go_wp2_with fail
    go_at_call 41; refine (rwinner_any _ _ L _ _ _ _ _ (by (repeat (first | assumption | refine LinesAt.ovr ?_ _ | refine LinesAt.alloc ?_ _ | refine LinesAt.drewN ?_ _ | refine LinesAt.drew ?_))) (by omega)).mono ?_; rw [HR.out]; rintro e w1 ⟨rfl, hbl⟩; obtain ⟨x, rfl⟩ := ovr_of_below hbl; clear hbl
    have hways := HW.out
    clear HW
    rcases hways with ⟨rfl, hf⟩ | ⟨rfl, hk, hf⟩ | ⟨rfl, rfl, rfl, rfl, hf⟩ | ⟨rfl, rfl, hne, hf⟩ | ⟨rfl, rfl, rfl, hne, hf⟩
    all_goals (
        subst hf
        go_wp2_with fail
        first
          | (refine bodyPost_ret (v := rngV noR) (by simp [results, Try.results89, go_sem, noR]; done) rfl ⟨rfl, by (repeat (first | with_reducible exact Below.refl _ _ | (with_reducible refine Below.setCell ?_ ?_ _; rotate_left; · (first | exact Nat.le_refl _ | assumption | omega | (simp; done) | (simp; omega))) | (with_reducible refine Below.alloc ?_ ?_ _; rotate_left; · (first | exact Nat.le_refl _ | assumption | omega | (simp; done) | (simp; omega))) | with_reducible refine below_ovr_of ?_ | with_reducible refine drew_below ?_ _ | with_reducible refine Below.drew ?_ | with_reducible assumption))⟩)
          | (refine bodyPost_ret (v := rngV ((k, fl, fc, tl, tc), true)) (by simp [results, Try.results89, go_sem]; done) rfl ⟨rfl, by (repeat (first | with_reducible exact Below.refl _ _ | (with_reducible refine Below.setCell ?_ ?_ _; rotate_left; · (first | exact Nat.le_refl _ | assumption | omega | (simp; done) | (simp; omega))) | (with_reducible refine Below.alloc ?_ ?_ _; rotate_left; · (first | exact Nat.le_refl _ | assumption | omega | (simp; done) | (simp; omega))) | with_reducible refine below_ovr_of ?_ | with_reducible refine drew_below ?_ _ | with_reducible refine Below.drew ?_ | with_reducible assumption))⟩)
          | (refine bodyPost_ret (v := rngV ((0, fl, fc, tl, tc), true)) (by simp [results, Try.results89, go_sem]; done) rfl ⟨rfl, by (repeat (first | with_reducible exact Below.refl _ _ | (with_reducible refine Below.setCell ?_ ?_ _; rotate_left; · (first | exact Nat.le_refl _ | assumption | omega | (simp; done) | (simp; omega))) | (with_reducible refine Below.alloc ?_ ?_ _; rotate_left; · (first | exact Nat.le_refl _ | assumption | omega | (simp; done) | (simp; omega))) | with_reducible refine below_ovr_of ?_ | with_reducible refine drew_below ?_ _ | with_reducible refine Below.drew ?_ | with_reducible assumption))⟩)
          | (refine bodyPost_ret (v := rngV ((0, fl, fc, fl, tc), true)) (by simp [results, Try.results89, go_sem]; done) rfl ⟨rfl, by (repeat (first | with_reducible exact Below.refl _ _ | (with_reducible refine Below.setCell ?_ ?_ _; rotate_left; · (first | exact Nat.le_refl _ | assumption | omega | (simp; done) | (simp; omega))) | (with_reducible refine Below.alloc ?_ ?_ _; rotate_left; · (first | exact Nat.le_refl _ | assumption | omega | (simp; done) | (simp; omega))) | with_reducible refine below_ovr_of ?_ | with_reducible refine drew_below ?_ _ | with_reducible refine Below.drew ?_ | with_reducible assumption))⟩)))
set_option maxRecDepth 100000 in
set_option maxHeartbeats 8000000 in
theorem rdo_i34 (a : Option Addr) (cap : Nat) (L : List ByteArray) (pl pc reg cnt m : Int) (op name text : ByteArray) (w : World) (hL : LinesAt w a L) (htot : L.length + total L ≤ 100000) (hn2 : m ≤ 9223372036854775807) (HM : Hid ((if cnt = 0 then (1 : Int) else cnt) = m)) (hE1 : (name.toList == [105]) = true) (hE2 : (name.toList == [97]) = false) :
    Calls Try.prog 89 #[.slice a L.length cap, .agg #[.int .i64 pl, .int .i64 pc], .agg #[.int .u8 reg, .int .i64 cnt, .string op, .string name, .int .u8 34, .string text]] w fun e w' => e = .returned (rngV (finR (objP L pl pc 34 m false))) ∧ Below w.heap.size w w' := by
  rw [objP_q (by decide)]
  obtain ⟨k, fl, fc, tl, tc, ok, hr, hways⟩ := fin_ways (quoteP L pl pc 34 false)
  have HR := Lib.hid hr
  obtain ⟨F, hF⟩ : ∃ F, finR (quoteP L pl pc 34 false) = F := ⟨_, rfl⟩
  rw [hF] at hways ⊢
  rw [hr] at hways
  have HW := Lib.hid hways
  clear hr hways hF
  by_cases hc : cnt = 0
  all_goals (
    have hM := HM.out
    first | (rw [if_pos hc] at hM; subst hc) | rw [if_neg hc] at hM
    subst hM
    clear HM
    go_enter Try.func89, Try.ntmps89
    go_wp2_with fail
    go_at_call 33; refine (rqinner_any _ _ L _ _ _ _ (by (repeat (first | assumption | refine LinesAt.ovr ?_ _ | refine LinesAt.alloc ?_ _ | refine LinesAt.drewN ?_ _ | refine LinesAt.drew ?_))) (by omega)).mono ?_; rw [HR.out]; rintro e w1 ⟨rfl, hbl⟩; obtain ⟨x, rfl⟩ := ovr_of_below hbl; clear hbl
    have hways := HW.out
    clear HW
    rcases hways with ⟨rfl, hf⟩ | ⟨rfl, hk, hf⟩ | ⟨rfl, rfl, rfl, rfl, hf⟩ | ⟨rfl, rfl, hne, hf⟩ | ⟨rfl, rfl, rfl, hne, hf⟩
    all_goals (
        subst hf
        go_wp2_with fail
        first
          | (refine bodyPost_ret (v := rngV noR) (by simp [results, Try.results89, go_sem, noR]; done) rfl ⟨rfl, by (repeat (first | with_reducible exact Below.refl _ _ | (with_reducible refine Below.setCell ?_ ?_ _; rotate_left; · (first | exact Nat.le_refl _ | assumption | omega | (simp; done) | (simp; omega))) | (with_reducible refine Below.alloc ?_ ?_ _; rotate_left; · (first | exact Nat.le_refl _ | assumption | omega | (simp; done) | (simp; omega))) | with_reducible refine below_ovr_of ?_ | with_reducible refine drew_below ?_ _ | with_reducible refine Below.drew ?_ | with_reducible assumption))⟩)
          | (refine bodyPost_ret (v := rngV ((k, fl, fc, tl, tc), true)) (by simp [results, Try.results89, go_sem]; done) rfl ⟨rfl, by (repeat (first | with_reducible exact Below.refl _ _ | (with_reducible refine Below.setCell ?_ ?_ _; rotate_left; · (first | exact Nat.le_refl _ | assumption | omega | (simp; done) | (simp; omega))) | (with_reducible refine Below.alloc ?_ ?_ _; rotate_left; · (first | exact Nat.le_refl _ | assumption | omega | (simp; done) | (simp; omega))) | with_reducible refine below_ovr_of ?_ | with_reducible refine drew_below ?_ _ | with_reducible refine Below.drew ?_ | with_reducible assumption))⟩)
          | (refine bodyPost_ret (v := rngV ((0, fl, fc, tl, tc), true)) (by simp [results, Try.results89, go_sem]; done) rfl ⟨rfl, by (repeat (first | with_reducible exact Below.refl _ _ | (with_reducible refine Below.setCell ?_ ?_ _; rotate_left; · (first | exact Nat.le_refl _ | assumption | omega | (simp; done) | (simp; omega))) | (with_reducible refine Below.alloc ?_ ?_ _; rotate_left; · (first | exact Nat.le_refl _ | assumption | omega | (simp; done) | (simp; omega))) | with_reducible refine below_ovr_of ?_ | with_reducible refine drew_below ?_ _ | with_reducible refine Below.drew ?_ | with_reducible assumption))⟩)
          | (refine bodyPost_ret (v := rngV ((0, fl, fc, fl, tc), true)) (by simp [results, Try.results89, go_sem]; done) rfl ⟨rfl, by (repeat (first | with_reducible exact Below.refl _ _ | (with_reducible refine Below.setCell ?_ ?_ _; rotate_left; · (first | exact Nat.le_refl _ | assumption | omega | (simp; done) | (simp; omega))) | (with_reducible refine Below.alloc ?_ ?_ _; rotate_left; · (first | exact Nat.le_refl _ | assumption | omega | (simp; done) | (simp; omega))) | with_reducible refine below_ovr_of ?_ | with_reducible refine drew_below ?_ _ | with_reducible refine Below.drew ?_ | with_reducible assumption))⟩)))
set_option maxRecDepth 100000 in
set_option maxHeartbeats 8000000 in
theorem rdo_i39 (a : Option Addr) (cap : Nat) (L : List ByteArray) (pl pc reg cnt m : Int) (op name text : ByteArray) (w : World) (hL : LinesAt w a L) (htot : L.length + total L ≤ 100000) (hn2 : m ≤ 9223372036854775807) (HM : Hid ((if cnt = 0 then (1 : Int) else cnt) = m)) (hE1 : (name.toList == [105]) = true) (hE2 : (name.toList == [97]) = false) :
    Calls Try.prog 89 #[.slice a L.length cap, .agg #[.int .i64 pl, .int .i64 pc], .agg #[.int .u8 reg, .int .i64 cnt, .string op, .string name, .int .u8 39, .string text]] w fun e w' => e = .returned (rngV (finR (objP L pl pc 39 m false))) ∧ Below w.heap.size w w' := by
  rw [objP_q (by decide)]
  obtain ⟨k, fl, fc, tl, tc, ok, hr, hways⟩ := fin_ways (quoteP L pl pc 39 false)
  have HR := Lib.hid hr
  obtain ⟨F, hF⟩ : ∃ F, finR (quoteP L pl pc 39 false) = F := ⟨_, rfl⟩
  rw [hF] at hways ⊢
  rw [hr] at hways
  have HW := Lib.hid hways
  clear hr hways hF
  by_cases hc : cnt = 0
  all_goals (
    have hM := HM.out
    first | (rw [if_pos hc] at hM; subst hc) | rw [if_neg hc] at hM
    subst hM
    clear HM
    go_enter Try.func89, Try.ntmps89
    go_wp2_with fail
    go_at_call 33; refine (rqinner_any _ _ L _ _ _ _ (by (repeat (first | assumption | refine LinesAt.ovr ?_ _ | refine LinesAt.alloc ?_ _ | refine LinesAt.drewN ?_ _ | refine LinesAt.drew ?_))) (by omega)).mono ?_; rw [HR.out]; rintro e w1 ⟨rfl, hbl⟩; obtain ⟨x, rfl⟩ := ovr_of_below hbl; clear hbl
    have hways := HW.out
    clear HW
    rcases hways with ⟨rfl, hf⟩ | ⟨rfl, hk, hf⟩ | ⟨rfl, rfl, rfl, rfl, hf⟩ | ⟨rfl, rfl, hne, hf⟩ | ⟨rfl, rfl, rfl, hne, hf⟩
    all_goals (
        subst hf
        go_wp2_with fail
        first
          | (refine bodyPost_ret (v := rngV noR) (by simp [results, Try.results89, go_sem, noR]; done) rfl ⟨rfl, by (repeat (first | with_reducible exact Below.refl _ _ | (with_reducible refine Below.setCell ?_ ?_ _; rotate_left; · (first | exact Nat.le_refl _ | assumption | omega | (simp; done) | (simp; omega))) | (with_reducible refine Below.alloc ?_ ?_ _; rotate_left; · (first | exact Nat.le_refl _ | assumption | omega | (simp; done) | (simp; omega))) | with_reducible refine below_ovr_of ?_ | with_reducible refine drew_below ?_ _ | with_reducible refine Below.drew ?_ | with_reducible assumption))⟩)
          | (refine bodyPost_ret (v := rngV ((k, fl, fc, tl, tc), true)) (by simp [results, Try.results89, go_sem]; done) rfl ⟨rfl, by (repeat (first | with_reducible exact Below.refl _ _ | (with_reducible refine Below.setCell ?_ ?_ _; rotate_left; · (first | exact Nat.le_refl _ | assumption | omega | (simp; done) | (simp; omega))) | (with_reducible refine Below.alloc ?_ ?_ _; rotate_left; · (first | exact Nat.le_refl _ | assumption | omega | (simp; done) | (simp; omega))) | with_reducible refine below_ovr_of ?_ | with_reducible refine drew_below ?_ _ | with_reducible refine Below.drew ?_ | with_reducible assumption))⟩)
          | (refine bodyPost_ret (v := rngV ((0, fl, fc, tl, tc), true)) (by simp [results, Try.results89, go_sem]; done) rfl ⟨rfl, by (repeat (first | with_reducible exact Below.refl _ _ | (with_reducible refine Below.setCell ?_ ?_ _; rotate_left; · (first | exact Nat.le_refl _ | assumption | omega | (simp; done) | (simp; omega))) | (with_reducible refine Below.alloc ?_ ?_ _; rotate_left; · (first | exact Nat.le_refl _ | assumption | omega | (simp; done) | (simp; omega))) | with_reducible refine below_ovr_of ?_ | with_reducible refine drew_below ?_ _ | with_reducible refine Below.drew ?_ | with_reducible assumption))⟩)
          | (refine bodyPost_ret (v := rngV ((0, fl, fc, fl, tc), true)) (by simp [results, Try.results89, go_sem]; done) rfl ⟨rfl, by (repeat (first | with_reducible exact Below.refl _ _ | (with_reducible refine Below.setCell ?_ ?_ _; rotate_left; · (first | exact Nat.le_refl _ | assumption | omega | (simp; done) | (simp; omega))) | (with_reducible refine Below.alloc ?_ ?_ _; rotate_left; · (first | exact Nat.le_refl _ | assumption | omega | (simp; done) | (simp; omega))) | with_reducible refine below_ovr_of ?_ | with_reducible refine drew_below ?_ _ | with_reducible refine Below.drew ?_ | with_reducible assumption))⟩)))
set_option maxRecDepth 100000 in
set_option maxHeartbeats 8000000 in
theorem rdo_i96 (a : Option Addr) (cap : Nat) (L : List ByteArray) (pl pc reg cnt m : Int) (op name text : ByteArray) (w : World) (hL : LinesAt w a L) (htot : L.length + total L ≤ 100000) (hn2 : m ≤ 9223372036854775807) (HM : Hid ((if cnt = 0 then (1 : Int) else cnt) = m)) (hE1 : (name.toList == [105]) = true) (hE2 : (name.toList == [97]) = false) :
    Calls Try.prog 89 #[.slice a L.length cap, .agg #[.int .i64 pl, .int .i64 pc], .agg #[.int .u8 reg, .int .i64 cnt, .string op, .string name, .int .u8 96, .string text]] w fun e w' => e = .returned (rngV (finR (objP L pl pc 96 m false))) ∧ Below w.heap.size w w' := by
  rw [objP_q (by decide)]
  obtain ⟨k, fl, fc, tl, tc, ok, hr, hways⟩ := fin_ways (quoteP L pl pc 96 false)
  have HR := Lib.hid hr
  obtain ⟨F, hF⟩ : ∃ F, finR (quoteP L pl pc 96 false) = F := ⟨_, rfl⟩
  rw [hF] at hways ⊢
  rw [hr] at hways
  have HW := Lib.hid hways
  clear hr hways hF
  by_cases hc : cnt = 0
  all_goals (
    have hM := HM.out
    first | (rw [if_pos hc] at hM; subst hc) | rw [if_neg hc] at hM
    subst hM
    clear HM
    go_enter Try.func89, Try.ntmps89
    go_wp2_with fail
    go_at_call 33; refine (rqinner_any _ _ L _ _ _ _ (by (repeat (first | assumption | refine LinesAt.ovr ?_ _ | refine LinesAt.alloc ?_ _ | refine LinesAt.drewN ?_ _ | refine LinesAt.drew ?_))) (by omega)).mono ?_; rw [HR.out]; rintro e w1 ⟨rfl, hbl⟩; obtain ⟨x, rfl⟩ := ovr_of_below hbl; clear hbl
    have hways := HW.out
    clear HW
    rcases hways with ⟨rfl, hf⟩ | ⟨rfl, hk, hf⟩ | ⟨rfl, rfl, rfl, rfl, hf⟩ | ⟨rfl, rfl, hne, hf⟩ | ⟨rfl, rfl, rfl, hne, hf⟩
    all_goals (
        subst hf
        go_wp2_with fail
        first
          | (refine bodyPost_ret (v := rngV noR) (by simp [results, Try.results89, go_sem, noR]; done) rfl ⟨rfl, by (repeat (first | with_reducible exact Below.refl _ _ | (with_reducible refine Below.setCell ?_ ?_ _; rotate_left; · (first | exact Nat.le_refl _ | assumption | omega | (simp; done) | (simp; omega))) | (with_reducible refine Below.alloc ?_ ?_ _; rotate_left; · (first | exact Nat.le_refl _ | assumption | omega | (simp; done) | (simp; omega))) | with_reducible refine below_ovr_of ?_ | with_reducible refine drew_below ?_ _ | with_reducible refine Below.drew ?_ | with_reducible assumption))⟩)
          | (refine bodyPost_ret (v := rngV ((k, fl, fc, tl, tc), true)) (by simp [results, Try.results89, go_sem]; done) rfl ⟨rfl, by (repeat (first | with_reducible exact Below.refl _ _ | (with_reducible refine Below.setCell ?_ ?_ _; rotate_left; · (first | exact Nat.le_refl _ | assumption | omega | (simp; done) | (simp; omega))) | (with_reducible refine Below.alloc ?_ ?_ _; rotate_left; · (first | exact Nat.le_refl _ | assumption | omega | (simp; done) | (simp; omega))) | with_reducible refine below_ovr_of ?_ | with_reducible refine drew_below ?_ _ | with_reducible refine Below.drew ?_ | with_reducible assumption))⟩)
          | (refine bodyPost_ret (v := rngV ((0, fl, fc, tl, tc), true)) (by simp [results, Try.results89, go_sem]; done) rfl ⟨rfl, by (repeat (first | with_reducible exact Below.refl _ _ | (with_reducible refine Below.setCell ?_ ?_ _; rotate_left; · (first | exact Nat.le_refl _ | assumption | omega | (simp; done) | (simp; omega))) | (with_reducible refine Below.alloc ?_ ?_ _; rotate_left; · (first | exact Nat.le_refl _ | assumption | omega | (simp; done) | (simp; omega))) | with_reducible refine below_ovr_of ?_ | with_reducible refine drew_below ?_ _ | with_reducible refine Below.drew ?_ | with_reducible assumption))⟩)
          | (refine bodyPost_ret (v := rngV ((0, fl, fc, fl, tc), true)) (by simp [results, Try.results89, go_sem]; done) rfl ⟨rfl, by (repeat (first | with_reducible exact Below.refl _ _ | (with_reducible refine Below.setCell ?_ ?_ _; rotate_left; · (first | exact Nat.le_refl _ | assumption | omega | (simp; done) | (simp; omega))) | (with_reducible refine Below.alloc ?_ ?_ _; rotate_left; · (first | exact Nat.le_refl _ | assumption | omega | (simp; done) | (simp; omega))) | with_reducible refine below_ovr_of ?_ | with_reducible refine drew_below ?_ _ | with_reducible refine Below.drew ?_ | with_reducible assumption))⟩)))
end Go.Proofs.Ytlbbgocggifjaaa
namespace Go.Proofs.Ytlbbgocggifjaaa
open Go.RowKit

set_option maxRecDepth 100000 in
set_option maxHeartbeats 8000000 in
theorem rdo_i40 (a : Option Addr) (cap : Nat) (L : List ByteArray) (pl pc reg cnt m : Int) (op name text : ByteArray) (w : World) (hL : LinesAt w a L) (htot : L.length + total L ≤ 100000) (hn2 : m ≤ 9223372036854775807) (HM : Hid ((if cnt = 0 then (1 : Int) else cnt) = m)) (hE1 : (name.toList == [105]) = true) (hE2 : (name.toList == [97]) = false) :
    Calls Try.prog 89 #[.slice a L.length cap, .agg #[.int .i64 pl, .int .i64 pc], .agg #[.int .u8 reg, .int .i64 cnt, .string op, .string name, .int .u8 40, .string text]] w fun e w' => e = .returned (rngV (finR (objP L pl pc 40 m false))) ∧ Below w.heap.size w w' := by
  rw [objP_b (by decide)]
  obtain ⟨k, fl, fc, tl, tc, ok, hr, hways⟩ := fin_ways (bracketP L pl pc 40 m false)
  have HR := Lib.hid hr
  obtain ⟨F, hF⟩ : ∃ F, finR (bracketP L pl pc 40 m false) = F := ⟨_, rfl⟩
  rw [hF] at hways ⊢
  rw [hr] at hways
  have HW := Lib.hid hways
  clear hr hways hF
  by_cases hc : cnt = 0
  all_goals (
    have hM := HM.out
    first | (rw [if_pos hc] at hM; subst hc) | rw [if_neg hc] at hM
    subst hM
    clear HM
    go_enter Try.func89, Try.ntmps89
    go_wp2_with fail
    go_at_call 55; refine (rbinner_any _ _ L _ _ _ _ _ (by (repeat (first | assumption | refine LinesAt.ovr ?_ _ | refine LinesAt.alloc ?_ _ | refine LinesAt.drewN ?_ _ | refine LinesAt.drew ?_))) (by omega) (by omega)).mono ?_; rw [HR.out]; rintro e w1 ⟨rfl, hbl⟩; obtain ⟨x, rfl⟩ := ovr_of_below hbl; clear hbl
    have hways := HW.out
    clear HW
    rcases hways with ⟨rfl, hf⟩ | ⟨rfl, hk, hf⟩ | ⟨rfl, rfl, rfl, rfl, hf⟩ | ⟨rfl, rfl, hne, hf⟩ | ⟨rfl, rfl, rfl, hne, hf⟩
    all_goals (
        subst hf
        go_wp2_with fail
        first
          | (refine bodyPost_ret (v := rngV noR) (by simp [results, Try.results89, go_sem, noR]; done) rfl ⟨rfl, by (repeat (first | with_reducible exact Below.refl _ _ | (with_reducible refine Below.setCell ?_ ?_ _; rotate_left; · (first | exact Nat.le_refl _ | assumption | omega | (simp; done) | (simp; omega))) | (with_reducible refine Below.alloc ?_ ?_ _; rotate_left; · (first | exact Nat.le_refl _ | assumption | omega | (simp; done) | (simp; omega))) | with_reducible refine below_ovr_of ?_ | with_reducible refine drew_below ?_ _ | with_reducible refine Below.drew ?_ | with_reducible assumption))⟩)
          | (refine bodyPost_ret (v := rngV ((k, fl, fc, tl, tc), true)) (by simp [results, Try.results89, go_sem]; done) rfl ⟨rfl, by (repeat (first | with_reducible exact Below.refl _ _ | (with_reducible refine Below.setCell ?_ ?_ _; rotate_left; · (first | exact Nat.le_refl _ | assumption | omega | (simp; done) | (simp; omega))) | (with_reducible refine Below.alloc ?_ ?_ _; rotate_left; · (first | exact Nat.le_refl _ | assumption | omega | (simp; done) | (simp; omega))) | with_reducible refine below_ovr_of ?_ | with_reducible refine drew_below ?_ _ | with_reducible refine Below.drew ?_ | with_reducible assumption))⟩)
          | (refine bodyPost_ret (v := rngV ((0, fl, fc, tl, tc), true)) (by simp [results, Try.results89, go_sem]; done) rfl ⟨rfl, by (repeat (first | with_reducible exact Below.refl _ _ | (with_reducible refine Below.setCell ?_ ?_ _; rotate_left; · (first | exact Nat.le_refl _ | assumption | omega | (simp; done) | (simp; omega))) | (with_reducible refine Below.alloc ?_ ?_ _; rotate_left; · (first | exact Nat.le_refl _ | assumption | omega | (simp; done) | (simp; omega))) | with_reducible refine below_ovr_of ?_ | with_reducible refine drew_below ?_ _ | with_reducible refine Below.drew ?_ | with_reducible assumption))⟩)
          | (refine bodyPost_ret (v := rngV ((0, fl, fc, fl, tc), true)) (by simp [results, Try.results89, go_sem]; done) rfl ⟨rfl, by (repeat (first | with_reducible exact Below.refl _ _ | (with_reducible refine Below.setCell ?_ ?_ _; rotate_left; · (first | exact Nat.le_refl _ | assumption | omega | (simp; done) | (simp; omega))) | (with_reducible refine Below.alloc ?_ ?_ _; rotate_left; · (first | exact Nat.le_refl _ | assumption | omega | (simp; done) | (simp; omega))) | with_reducible refine below_ovr_of ?_ | with_reducible refine drew_below ?_ _ | with_reducible refine Below.drew ?_ | with_reducible assumption))⟩)))
set_option maxRecDepth 100000 in
set_option maxHeartbeats 8000000 in
theorem rdo_i91 (a : Option Addr) (cap : Nat) (L : List ByteArray) (pl pc reg cnt m : Int) (op name text : ByteArray) (w : World) (hL : LinesAt w a L) (htot : L.length + total L ≤ 100000) (hn2 : m ≤ 9223372036854775807) (HM : Hid ((if cnt = 0 then (1 : Int) else cnt) = m)) (hE1 : (name.toList == [105]) = true) (hE2 : (name.toList == [97]) = false) :
    Calls Try.prog 89 #[.slice a L.length cap, .agg #[.int .i64 pl, .int .i64 pc], .agg #[.int .u8 reg, .int .i64 cnt, .string op, .string name, .int .u8 91, .string text]] w fun e w' => e = .returned (rngV (finR (objP L pl pc 91 m false))) ∧ Below w.heap.size w w' := by
  rw [objP_b (by decide)]
  obtain ⟨k, fl, fc, tl, tc, ok, hr, hways⟩ := fin_ways (bracketP L pl pc 91 m false)
  have HR := Lib.hid hr
  obtain ⟨F, hF⟩ : ∃ F, finR (bracketP L pl pc 91 m false) = F := ⟨_, rfl⟩
  rw [hF] at hways ⊢
  rw [hr] at hways
  have HW := Lib.hid hways
  clear hr hways hF
  by_cases hc : cnt = 0
  all_goals (
    have hM := HM.out
    first | (rw [if_pos hc] at hM; subst hc) | rw [if_neg hc] at hM
    subst hM
    clear HM
    go_enter Try.func89, Try.ntmps89
    go_wp2_with fail
    go_at_call 55; refine (rbinner_any _ _ L _ _ _ _ _ (by (repeat (first | assumption | refine LinesAt.ovr ?_ _ | refine LinesAt.alloc ?_ _ | refine LinesAt.drewN ?_ _ | refine LinesAt.drew ?_))) (by omega) (by omega)).mono ?_; rw [HR.out]; rintro e w1 ⟨rfl, hbl⟩; obtain ⟨x, rfl⟩ := ovr_of_below hbl; clear hbl
    have hways := HW.out
    clear HW
    rcases hways with ⟨rfl, hf⟩ | ⟨rfl, hk, hf⟩ | ⟨rfl, rfl, rfl, rfl, hf⟩ | ⟨rfl, rfl, hne, hf⟩ | ⟨rfl, rfl, rfl, hne, hf⟩
    all_goals (
        subst hf
        go_wp2_with fail
        first
          | (refine bodyPost_ret (v := rngV noR) (by simp [results, Try.results89, go_sem, noR]; done) rfl ⟨rfl, by (repeat (first | with_reducible exact Below.refl _ _ | (with_reducible refine Below.setCell ?_ ?_ _; rotate_left; · (first | exact Nat.le_refl _ | assumption | omega | (simp; done) | (simp; omega))) | (with_reducible refine Below.alloc ?_ ?_ _; rotate_left; · (first | exact Nat.le_refl _ | assumption | omega | (simp; done) | (simp; omega))) | with_reducible refine below_ovr_of ?_ | with_reducible refine drew_below ?_ _ | with_reducible refine Below.drew ?_ | with_reducible assumption))⟩)
          | (refine bodyPost_ret (v := rngV ((k, fl, fc, tl, tc), true)) (by simp [results, Try.results89, go_sem]; done) rfl ⟨rfl, by (repeat (first | with_reducible exact Below.refl _ _ | (with_reducible refine Below.setCell ?_ ?_ _; rotate_left; · (first | exact Nat.le_refl _ | assumption | omega | (simp; done) | (simp; omega))) | (with_reducible refine Below.alloc ?_ ?_ _; rotate_left; · (first | exact Nat.le_refl _ | assumption | omega | (simp; done) | (simp; omega))) | with_reducible refine below_ovr_of ?_ | with_reducible refine drew_below ?_ _ | with_reducible refine Below.drew ?_ | with_reducible assumption))⟩)
          | (refine bodyPost_ret (v := rngV ((0, fl, fc, tl, tc), true)) (by simp [results, Try.results89, go_sem]; done) rfl ⟨rfl, by (repeat (first | with_reducible exact Below.refl _ _ | (with_reducible refine Below.setCell ?_ ?_ _; rotate_left; · (first | exact Nat.le_refl _ | assumption | omega | (simp; done) | (simp; omega))) | (with_reducible refine Below.alloc ?_ ?_ _; rotate_left; · (first | exact Nat.le_refl _ | assumption | omega | (simp; done) | (simp; omega))) | with_reducible refine below_ovr_of ?_ | with_reducible refine drew_below ?_ _ | with_reducible refine Below.drew ?_ | with_reducible assumption))⟩)
          | (refine bodyPost_ret (v := rngV ((0, fl, fc, fl, tc), true)) (by simp [results, Try.results89, go_sem]; done) rfl ⟨rfl, by (repeat (first | with_reducible exact Below.refl _ _ | (with_reducible refine Below.setCell ?_ ?_ _; rotate_left; · (first | exact Nat.le_refl _ | assumption | omega | (simp; done) | (simp; omega))) | (with_reducible refine Below.alloc ?_ ?_ _; rotate_left; · (first | exact Nat.le_refl _ | assumption | omega | (simp; done) | (simp; omega))) | with_reducible refine below_ovr_of ?_ | with_reducible refine drew_below ?_ _ | with_reducible refine Below.drew ?_ | with_reducible assumption))⟩)))
set_option maxRecDepth 100000 in
set_option maxHeartbeats 8000000 in
theorem rdo_i123 (a : Option Addr) (cap : Nat) (L : List ByteArray) (pl pc reg cnt m : Int) (op name text : ByteArray) (w : World) (hL : LinesAt w a L) (htot : L.length + total L ≤ 100000) (hn2 : m ≤ 9223372036854775807) (HM : Hid ((if cnt = 0 then (1 : Int) else cnt) = m)) (hE1 : (name.toList == [105]) = true) (hE2 : (name.toList == [97]) = false) :
    Calls Try.prog 89 #[.slice a L.length cap, .agg #[.int .i64 pl, .int .i64 pc], .agg #[.int .u8 reg, .int .i64 cnt, .string op, .string name, .int .u8 123, .string text]] w fun e w' => e = .returned (rngV (finR (objP L pl pc 123 m false))) ∧ Below w.heap.size w w' := by
  rw [objP_b (by decide)]
  obtain ⟨k, fl, fc, tl, tc, ok, hr, hways⟩ := fin_ways (bracketP L pl pc 123 m false)
  have HR := Lib.hid hr
  obtain ⟨F, hF⟩ : ∃ F, finR (bracketP L pl pc 123 m false) = F := ⟨_, rfl⟩
  rw [hF] at hways ⊢
  rw [hr] at hways
  have HW := Lib.hid hways
  clear hr hways hF
  by_cases hc : cnt = 0
  all_goals (
    have hM := HM.out
    first | (rw [if_pos hc] at hM; subst hc) | rw [if_neg hc] at hM
    subst hM
    clear HM
    go_enter Try.func89, Try.ntmps89
    go_wp2_with fail
    go_at_call 55; refine (rbinner_any _ _ L _ _ _ _ _ (by (repeat (first | assumption | refine LinesAt.ovr ?_ _ | refine LinesAt.alloc ?_ _ | refine LinesAt.drewN ?_ _ | refine LinesAt.drew ?_))) (by omega) (by omega)).mono ?_; rw [HR.out]; rintro e w1 ⟨rfl, hbl⟩; obtain ⟨x, rfl⟩ := ovr_of_below hbl; clear hbl
    have hways := HW.out
    clear HW
    rcases hways with ⟨rfl, hf⟩ | ⟨rfl, hk, hf⟩ | ⟨rfl, rfl, rfl, rfl, hf⟩ | ⟨rfl, rfl, hne, hf⟩ | ⟨rfl, rfl, rfl, hne, hf⟩
    all_goals (
        subst hf
        go_wp2_with fail
        first
          | (refine bodyPost_ret (v := rngV noR) (by simp [results, Try.results89, go_sem, noR]; done) rfl ⟨rfl, by (repeat (first | with_reducible exact Below.refl _ _ | (with_reducible refine Below.setCell ?_ ?_ _; rotate_left; · (first | exact Nat.le_refl _ | assumption | omega | (simp; done) | (simp; omega))) | (with_reducible refine Below.alloc ?_ ?_ _; rotate_left; · (first | exact Nat.le_refl _ | assumption | omega | (simp; done) | (simp; omega))) | with_reducible refine below_ovr_of ?_ | with_reducible refine drew_below ?_ _ | with_reducible refine Below.drew ?_ | with_reducible assumption))⟩)
          | (refine bodyPost_ret (v := rngV ((k, fl, fc, tl, tc), true)) (by simp [results, Try.results89, go_sem]; done) rfl ⟨rfl, by (repeat (first | with_reducible exact Below.refl _ _ | (with_reducible refine Below.setCell ?_ ?_ _; rotate_left; · (first | exact Nat.le_refl _ | assumption | omega | (simp; done) | (simp; omega))) | (with_reducible refine Below.alloc ?_ ?_ _; rotate_left; · (first | exact Nat.le_refl _ | assumption | omega | (simp; done) | (simp; omega))) | with_reducible refine below_ovr_of ?_ | with_reducible refine drew_below ?_ _ | with_reducible refine Below.drew ?_ | with_reducible assumption))⟩)
          | (refine bodyPost_ret (v := rngV ((0, fl, fc, tl, tc), true)) (by simp [results, Try.results89, go_sem]; done) rfl ⟨rfl, by (repeat (first | with_reducible exact Below.refl _ _ | (with_reducible refine Below.setCell ?_ ?_ _; rotate_left; · (first | exact Nat.le_refl _ | assumption | omega | (simp; done) | (simp; omega))) | (with_reducible refine Below.alloc ?_ ?_ _; rotate_left; · (first | exact Nat.le_refl _ | assumption | omega | (simp; done) | (simp; omega))) | with_reducible refine below_ovr_of ?_ | with_reducible refine drew_below ?_ _ | with_reducible refine Below.drew ?_ | with_reducible assumption))⟩)
          | (refine bodyPost_ret (v := rngV ((0, fl, fc, fl, tc), true)) (by simp [results, Try.results89, go_sem]; done) rfl ⟨rfl, by (repeat (first | with_reducible exact Below.refl _ _ | (with_reducible refine Below.setCell ?_ ?_ _; rotate_left; · (first | exact Nat.le_refl _ | assumption | omega | (simp; done) | (simp; omega))) | (with_reducible refine Below.alloc ?_ ?_ _; rotate_left; · (first | exact Nat.le_refl _ | assumption | omega | (simp; done) | (simp; omega))) | with_reducible refine below_ovr_of ?_ | with_reducible refine drew_below ?_ _ | with_reducible refine Below.drew ?_ | with_reducible assumption))⟩)))
set_option maxRecDepth 100000 in
set_option maxHeartbeats 8000000 in
theorem rdo_i112 (a : Option Addr) (cap : Nat) (L : List ByteArray) (pl pc reg cnt m : Int) (op name text : ByteArray) (w : World) (hL : LinesAt w a L) (htot : L.length + total L ≤ 100000) (hn2 : m ≤ 9223372036854775807) (HM : Hid ((if cnt = 0 then (1 : Int) else cnt) = m)) (hE1 : (name.toList == [105]) = true) (hE2 : (name.toList == [97]) = false) :
    Calls Try.prog 89 #[.slice a L.length cap, .agg #[.int .i64 pl, .int .i64 pc], .agg #[.int .u8 reg, .int .i64 cnt, .string op, .string name, .int .u8 112, .string text]] w fun e w' => e = .returned (rngV (finR (objP L pl pc 112 m false))) ∧ Below w.heap.size w w' := by
  rw [objP_p]
  obtain ⟨k, fl, fc, tl, tc, ok, hr, hways⟩ := fin_ways (paraOP L pl pc m false)
  have HR := Lib.hid hr
  obtain ⟨F, hF⟩ : ∃ F, finR (paraOP L pl pc m false) = F := ⟨_, rfl⟩
  rw [hF] at hways ⊢
  rw [hr] at hways
  have HW := Lib.hid hways
  clear hr hways hF
  by_cases hc : cnt = 0
  all_goals (
    have hM := HM.out
    first | (rw [if_pos hc] at hM; subst hc) | rw [if_neg hc] at hM
    subst hM
    clear HM
    go_enter Try.func89, Try.ntmps89
    go_wp2_with fail
    go_at_call 82; refine (rpinner_any _ _ L _ _ _ _ (by (repeat (first | assumption | refine LinesAt.ovr ?_ _ | refine LinesAt.alloc ?_ _ | refine LinesAt.drewN ?_ _ | refine LinesAt.drew ?_))) (by omega) (by omega)).mono ?_; rw [HR.out]; rintro e w1 ⟨rfl, hbl⟩; obtain ⟨x, rfl⟩ := ovr_of_below hbl; clear hbl
    have hways := HW.out
    clear HW
    rcases hways with ⟨rfl, hf⟩ | ⟨rfl, hk, hf⟩ | ⟨rfl, rfl, rfl, rfl, hf⟩ | ⟨rfl, rfl, hne, hf⟩ | ⟨rfl, rfl, rfl, hne, hf⟩
    all_goals (
        subst hf
        go_wp2_with fail
        first
          | (refine bodyPost_ret (v := rngV noR) (by simp [results, Try.results89, go_sem, noR]; done) rfl ⟨rfl, by (repeat (first | with_reducible exact Below.refl _ _ | (with_reducible refine Below.setCell ?_ ?_ _; rotate_left; · (first | exact Nat.le_refl _ | assumption | omega | (simp; done) | (simp; omega))) | (with_reducible refine Below.alloc ?_ ?_ _; rotate_left; · (first | exact Nat.le_refl _ | assumption | omega | (simp; done) | (simp; omega))) | with_reducible refine below_ovr_of ?_ | with_reducible refine drew_below ?_ _ | with_reducible refine Below.drew ?_ | with_reducible assumption))⟩)
          | (refine bodyPost_ret (v := rngV ((k, fl, fc, tl, tc), true)) (by simp [results, Try.results89, go_sem]; done) rfl ⟨rfl, by (repeat (first | with_reducible exact Below.refl _ _ | (with_reducible refine Below.setCell ?_ ?_ _; rotate_left; · (first | exact Nat.le_refl _ | assumption | omega | (simp; done) | (simp; omega))) | (with_reducible refine Below.alloc ?_ ?_ _; rotate_left; · (first | exact Nat.le_refl _ | assumption | omega | (simp; done) | (simp; omega))) | with_reducible refine below_ovr_of ?_ | with_reducible refine drew_below ?_ _ | with_reducible refine Below.drew ?_ | with_reducible assumption))⟩)
          | (refine bodyPost_ret (v := rngV ((0, fl, fc, tl, tc), true)) (by simp [results, Try.results89, go_sem]; done) rfl ⟨rfl, by (repeat (first | with_reducible exact Below.refl _ _ | (with_reducible refine Below.setCell ?_ ?_ _; rotate_left; · (first | exact Nat.le_refl _ | assumption | omega | (simp; done) | (simp; omega))) | (with_reducible refine Below.alloc ?_ ?_ _; rotate_left; · (first | exact Nat.le_refl _ | assumption | omega | (simp; done) | (simp; omega))) | with_reducible refine below_ovr_of ?_ | with_reducible refine drew_below ?_ _ | with_reducible refine Below.drew ?_ | with_reducible assumption))⟩)
          | (refine bodyPost_ret (v := rngV ((0, fl, fc, fl, tc), true)) (by simp [results, Try.results89, go_sem]; done) rfl ⟨rfl, by (repeat (first | with_reducible exact Below.refl _ _ | (with_reducible refine Below.setCell ?_ ?_ _; rotate_left; · (first | exact Nat.le_refl _ | assumption | omega | (simp; done) | (simp; omega))) | (with_reducible refine Below.alloc ?_ ?_ _; rotate_left; · (first | exact Nat.le_refl _ | assumption | omega | (simp; done) | (simp; omega))) | with_reducible refine below_ovr_of ?_ | with_reducible refine drew_below ?_ _ | with_reducible refine Below.drew ?_ | with_reducible assumption))⟩)))
set_option maxRecDepth 100000 in
set_option maxHeartbeats 8000000 in
theorem rdo_i115 (a : Option Addr) (cap : Nat) (L : List ByteArray) (pl pc reg cnt m : Int) (op name text : ByteArray) (w : World) (hL : LinesAt w a L) (htot : L.length + total L ≤ 100000) (hn2 : m ≤ 9223372036854775807) (HM : Hid ((if cnt = 0 then (1 : Int) else cnt) = m)) (hE1 : (name.toList == [105]) = true) (hE2 : (name.toList == [97]) = false) :
    Calls Try.prog 89 #[.slice a L.length cap, .agg #[.int .i64 pl, .int .i64 pc], .agg #[.int .u8 reg, .int .i64 cnt, .string op, .string name, .int .u8 115, .string text]] w fun e w' => e = .returned (rngV (finR (objP L pl pc 115 m false))) ∧ Below w.heap.size w w' := by
  rw [objP_s]
  obtain ⟨k, fl, fc, tl, tc, ok, hr, hways⟩ := fin_ways (sObjP L pl pc false)
  have HR := Lib.hid hr
  obtain ⟨F, hF⟩ : ∃ F, finR (sObjP L pl pc false) = F := ⟨_, rfl⟩
  rw [hF] at hways ⊢
  rw [hr] at hways
  have HW := Lib.hid hways
  clear hr hways hF
  by_cases hc : cnt = 0
  all_goals (
    have hM := HM.out
    first | (rw [if_pos hc] at hM; subst hc) | rw [if_neg hc] at hM
    subst hM
    clear HM
    go_enter Try.func89, Try.ntmps89
    go_wp2_with fail
    go_at_call 86; refine (rsobj_any _ _ L _ _ _ _ (by (repeat (first | assumption | refine LinesAt.ovr ?_ _ | refine LinesAt.alloc ?_ _ | refine LinesAt.drewN ?_ _ | refine LinesAt.drew ?_))) (by omega)).mono ?_; rw [HR.out]; rintro e w1 ⟨rfl, hbl⟩; obtain ⟨x, rfl⟩ := ovr_of_below hbl; clear hbl
    have hways := HW.out
    clear HW
    rcases hways with ⟨rfl, hf⟩ | ⟨rfl, hk, hf⟩ | ⟨rfl, rfl, rfl, rfl, hf⟩ | ⟨rfl, rfl, hne, hf⟩ | ⟨rfl, rfl, rfl, hne, hf⟩
    all_goals (
        subst hf
        go_wp2_with fail
        first
          | (refine bodyPost_ret (v := rngV noR) (by simp [results, Try.results89, go_sem, noR]; done) rfl ⟨rfl, by (repeat (first | with_reducible exact Below.refl _ _ | (with_reducible refine Below.setCell ?_ ?_ _; rotate_left; · (first | exact Nat.le_refl _ | assumption | omega | (simp; done) | (simp; omega))) | (with_reducible refine Below.alloc ?_ ?_ _; rotate_left; · (first | exact Nat.le_refl _ | assumption | omega | (simp; done) | (simp; omega))) | with_reducible refine below_ovr_of ?_ | with_reducible refine drew_below ?_ _ | with_reducible refine Below.drew ?_ | with_reducible assumption))⟩)
          | (refine bodyPost_ret (v := rngV ((k, fl, fc, tl, tc), true)) (by simp [results, Try.results89, go_sem]; done) rfl ⟨rfl, by (repeat (first | with_reducible exact Below.refl _ _ | (with_reducible refine Below.setCell ?_ ?_ _; rotate_left; · (first | exact Nat.le_refl _ | assumption | omega | (simp; done) | (simp; omega))) | (with_reducible refine Below.alloc ?_ ?_ _; rotate_left; · (first | exact Nat.le_refl _ | assumption | omega | (simp; done) | (simp; omega))) | with_reducible refine below_ovr_of ?_ | with_reducible refine drew_below ?_ _ | with_reducible refine Below.drew ?_ | with_reducible assumption))⟩)
          | (refine bodyPost_ret (v := rngV ((0, fl, fc, tl, tc), true)) (by simp [results, Try.results89, go_sem]; done) rfl ⟨rfl, by (repeat (first | with_reducible exact Below.refl _ _ | (with_reducible refine Below.setCell ?_ ?_ _; rotate_left; · (first | exact Nat.le_refl _ | assumption | omega | (simp; done) | (simp; omega))) | (with_reducible refine Below.alloc ?_ ?_ _; rotate_left; · (first | exact Nat.le_refl _ | assumption | omega | (simp; done) | (simp; omega))) | with_reducible refine below_ovr_of ?_ | with_reducible refine drew_below ?_ _ | with_reducible refine Below.drew ?_ | with_reducible assumption))⟩)
          | (refine bodyPost_ret (v := rngV ((0, fl, fc, fl, tc), true)) (by simp [results, Try.results89, go_sem]; done) rfl ⟨rfl, by (repeat (first | with_reducible exact Below.refl _ _ | (with_reducible refine Below.setCell ?_ ?_ _; rotate_left; · (first | exact Nat.le_refl _ | assumption | omega | (simp; done) | (simp; omega))) | (with_reducible refine Below.alloc ?_ ?_ _; rotate_left; · (first | exact Nat.le_refl _ | assumption | omega | (simp; done) | (simp; omega))) | with_reducible refine below_ovr_of ?_ | with_reducible refine drew_below ?_ _ | with_reducible refine Below.drew ?_ | with_reducible assumption))⟩)))
end Go.Proofs.Ytlbbgocggifjaaa
