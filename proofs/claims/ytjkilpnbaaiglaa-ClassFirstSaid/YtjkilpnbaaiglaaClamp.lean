/- The contracts of Clamp, Equal, Same. Conditions: none beyond what each says. -/
import Derived.Test.YtjkilpnbaaiglaaLists
namespace Go.Proofs.Ytjkilpnbaaiglaa
open Go.RowKit

set_option maxHeartbeats 800000 in
theorem clamp_any (a : Option Addr) (cap : Nat) (L : List ByteArray) (l c : Int) (past : Bool) (w : World) (hL : LinesAt w a L) :
    Calls Try.prog 21 #[.slice a L.length cap, .agg #[.int .i64 l, .int .i64 c], .bool past] w fun e w' =>
      e = .returned (.agg #[.int .i64 (clampP L l c past).1, .int .i64 (clampP L l c past).2]) ∧ Below w.heap.size w w' := by
  have hn := hL.2.1
  by_cases h0 : L.length = 0
  · have hy := Lib.hid (clampP_nil (l := l) (c := c) (past := past) h0)
    have hd : ((L.length : Int) == 0) = true := by simp [h0]
    go_enter Try.func21, Try.ntmps21
    go_wp2
    refine bodyPost_ret (v := .agg #[.int .i64 0, .int .i64 0]) (by simp [results, Try.results21, go_sem]) rfl ⟨ret_val (by rw [hy.out]), by (repeat (first | exact Below.refl _ _ | refine Below.alloc ?_ (by first | exact Nat.le_refl _ | (simp [size_ovr]; done) | (simp [size_ovr]; omega)) _ | refine below_ovr_of ?_ | refine drew_below ?_ _ | refine Below.drew ?_ | refine Below.setCell ?_ (by first | exact Nat.le_refl _ | (simp [size_ovr]; done) | (simp [size_ovr]; omega)) _ | assumption))⟩
  · have hd : ((L.length : Int) == 0) = false := beq_eq_false_iff_ne.2 (by omega)
    obtain ⟨k, hk, hkl, hcase⟩ := clampP_line (l := l) h0
    obtain ⟨b, off, rfl, hb, hc, hs⟩ := hL.line hk
    have hy := Lib.hid (clampP_eq (c := c) (past := past) h0 hkl)
    generalize L.getD k .empty = s at hc hs hy
    clear hkl
    rcases hcase with ⟨h1, h2⟩ | ⟨h1, h2, h3⟩ | ⟨h1, h2⟩
    · subst h2
      rw [Nat.add_zero] at hc
      cases past with
      | true =>
        go_enter Try.func21, Try.ntmps21
        go_wp2
        all_goals (simp [bodyPost, results, Try.results21, go_sem])
        all_goals (rw [hy.out]; refine ⟨⟨by omega, ?_⟩, by (repeat (first | exact Below.refl _ _ | refine Below.alloc ?_ (by first | exact Nat.le_refl _ | (simp [size_ovr]; done) | (simp [size_ovr]; omega)) _ | refine below_ovr_of ?_ | refine drew_below ?_ _ | refine Below.drew ?_ | refine Below.setCell ?_ (by first | exact Nat.le_refl _ | (simp [size_ovr]; done) | (simp [size_ovr]; omega)) _ | assumption))⟩; rw [clampC_true]; simp only [Int.max_def, Int.min_def]; (repeat' split) <;> omega)
      | false =>
        go_enter Try.func21, Try.ntmps21
        go_wp2
        all_goals (simp [bodyPost, results, Try.results21, go_sem])
        all_goals (rw [hy.out]; refine ⟨⟨by omega, ?_⟩, by (repeat (first | exact Below.refl _ _ | refine Below.alloc ?_ (by first | exact Nat.le_refl _ | (simp [size_ovr]; done) | (simp [size_ovr]; omega)) _ | refine below_ovr_of ?_ | refine drew_below ?_ _ | refine Below.drew ?_ | refine Below.setCell ?_ (by first | exact Nat.le_refl _ | (simp [size_ovr]; done) | (simp [size_ovr]; omega)) _ | assumption))⟩; rw [clampC_false]; simp only [Int.max_def, Int.min_def]; (repeat' split) <;> omega)
    · subst h2
      cases past with
      | true =>
        go_enter Try.func21, Try.ntmps21
        go_wp2
        all_goals (simp [bodyPost, results, Try.results21, go_sem])
        all_goals (rw [hy.out]; refine ⟨⟨by omega, ?_⟩, by (repeat (first | exact Below.refl _ _ | refine Below.alloc ?_ (by first | exact Nat.le_refl _ | (simp [size_ovr]; done) | (simp [size_ovr]; omega)) _ | refine below_ovr_of ?_ | refine drew_below ?_ _ | refine Below.drew ?_ | refine Below.setCell ?_ (by first | exact Nat.le_refl _ | (simp [size_ovr]; done) | (simp [size_ovr]; omega)) _ | assumption))⟩; rw [clampC_true]; simp only [Int.max_def, Int.min_def]; (repeat' split) <;> omega)
      | false =>
        go_enter Try.func21, Try.ntmps21
        go_wp2
        all_goals (simp [bodyPost, results, Try.results21, go_sem])
        all_goals (rw [hy.out]; refine ⟨⟨by omega, ?_⟩, by (repeat (first | exact Below.refl _ _ | refine Below.alloc ?_ (by first | exact Nat.le_refl _ | (simp [size_ovr]; done) | (simp [size_ovr]; omega)) _ | refine below_ovr_of ?_ | refine drew_below ?_ _ | refine Below.drew ?_ | refine Below.setCell ?_ (by first | exact Nat.le_refl _ | (simp [size_ovr]; done) | (simp [size_ovr]; omega)) _ | assumption))⟩; rw [clampC_false]; simp only [Int.max_def, Int.min_def]; (repeat' split) <;> omega)
    · subst h2
      have hq : 0 ≤ (L.length : Int) - 1 := by omega
      cases past with
      | true =>
        go_enter Try.func21, Try.ntmps21
        go_wp2
        all_goals (simp [bodyPost, results, Try.results21, go_sem])
        all_goals (rw [hy.out]; refine ⟨⟨by omega, ?_⟩, by (repeat (first | exact Below.refl _ _ | refine Below.alloc ?_ (by first | exact Nat.le_refl _ | (simp [size_ovr]; done) | (simp [size_ovr]; omega)) _ | refine below_ovr_of ?_ | refine drew_below ?_ _ | refine Below.drew ?_ | refine Below.setCell ?_ (by first | exact Nat.le_refl _ | (simp [size_ovr]; done) | (simp [size_ovr]; omega)) _ | assumption))⟩; rw [clampC_true]; simp only [Int.max_def, Int.min_def]; (repeat' split) <;> omega)
      | false =>
        go_enter Try.func21, Try.ntmps21
        go_wp2
        all_goals (simp [bodyPost, results, Try.results21, go_sem])
        all_goals (rw [hy.out]; refine ⟨⟨by omega, ?_⟩, by (repeat (first | exact Below.refl _ _ | refine Below.alloc ?_ (by first | exact Nat.le_refl _ | (simp [size_ovr]; done) | (simp [size_ovr]; omega)) _ | refine below_ovr_of ?_ | refine drew_below ?_ _ | refine Below.drew ?_ | refine Below.setCell ?_ (by first | exact Nat.le_refl _ | (simp [size_ovr]; done) | (simp [size_ovr]; omega)) _ | assumption))⟩; rw [clampC_false]; simp only [Int.max_def, Int.min_def]; (repeat' split) <;> omega)
set_option maxHeartbeats 800000 in
theorem rclamp_any (a : Option Addr) (cap : Nat) (L : List ByteArray) (l c : Int) (past : Bool) (w : World) (hL : LinesAt w a L) :
    Calls Try.prog 22 #[.slice a L.length cap, .agg #[.int .i64 l, .int .i64 c], .bool past] w fun e w' =>
      e = .returned (.agg #[.int .i64 (clampP L l c past).1, .int .i64 (clampP L l c past).2]) ∧ Below w.heap.size w w' := by
  have hn := hL.2.1
  by_cases h0 : L.length = 0
  · have hy := Lib.hid (clampP_nil (l := l) (c := c) (past := past) h0)
    have hd : ((L.length : Int) == 0) = true := by simp [h0]
    go_enter Try.func22, Try.ntmps22
    go_wp2
    refine bodyPost_ret (v := .agg #[.int .i64 0, .int .i64 0]) (by simp [results, Try.results22, go_sem]) rfl ⟨ret_val (by rw [hy.out]), by (repeat (first | exact Below.refl _ _ | refine Below.alloc ?_ (by first | exact Nat.le_refl _ | (simp [size_ovr]; done) | (simp [size_ovr]; omega)) _ | refine below_ovr_of ?_ | refine drew_below ?_ _ | refine Below.drew ?_ | refine Below.setCell ?_ (by first | exact Nat.le_refl _ | (simp [size_ovr]; done) | (simp [size_ovr]; omega)) _ | assumption))⟩
  · have hd : ((L.length : Int) == 0) = false := beq_eq_false_iff_ne.2 (by omega)
    obtain ⟨k, hk, hkl, hcase⟩ := clampP_line (l := l) h0
    obtain ⟨b, off, rfl, hb, hc, hs⟩ := hL.line hk
    have hy := Lib.hid (clampP_eq (c := c) (past := past) h0 hkl)
    generalize L.getD k .empty = s at hc hs hy
    clear hkl
    rcases hcase with ⟨h1, h2⟩ | ⟨h1, h2, h3⟩ | ⟨h1, h2⟩
    · subst h2
      rw [Nat.add_zero] at hc
      cases past with
      | true =>
        go_enter Try.func22, Try.ntmps22
        go_wp2
        all_goals (simp [bodyPost, results, Try.results22, go_sem])
        all_goals (rw [hy.out]; refine ⟨⟨by omega, ?_⟩, by (repeat (first | exact Below.refl _ _ | refine Below.alloc ?_ (by first | exact Nat.le_refl _ | (simp [size_ovr]; done) | (simp [size_ovr]; omega)) _ | refine below_ovr_of ?_ | refine drew_below ?_ _ | refine Below.drew ?_ | refine Below.setCell ?_ (by first | exact Nat.le_refl _ | (simp [size_ovr]; done) | (simp [size_ovr]; omega)) _ | assumption))⟩; rw [clampC_true]; simp only [Int.max_def, Int.min_def]; (repeat' split) <;> omega)
      | false =>
        go_enter Try.func22, Try.ntmps22
        go_wp2
        all_goals (simp [bodyPost, results, Try.results22, go_sem])
        all_goals (rw [hy.out]; refine ⟨⟨by omega, ?_⟩, by (repeat (first | exact Below.refl _ _ | refine Below.alloc ?_ (by first | exact Nat.le_refl _ | (simp [size_ovr]; done) | (simp [size_ovr]; omega)) _ | refine below_ovr_of ?_ | refine drew_below ?_ _ | refine Below.drew ?_ | refine Below.setCell ?_ (by first | exact Nat.le_refl _ | (simp [size_ovr]; done) | (simp [size_ovr]; omega)) _ | assumption))⟩; rw [clampC_false]; simp only [Int.max_def, Int.min_def]; (repeat' split) <;> omega)
    · subst h2
      cases past with
      | true =>
        go_enter Try.func22, Try.ntmps22
        go_wp2
        all_goals (simp [bodyPost, results, Try.results22, go_sem])
        all_goals (rw [hy.out]; refine ⟨⟨by omega, ?_⟩, by (repeat (first | exact Below.refl _ _ | refine Below.alloc ?_ (by first | exact Nat.le_refl _ | (simp [size_ovr]; done) | (simp [size_ovr]; omega)) _ | refine below_ovr_of ?_ | refine drew_below ?_ _ | refine Below.drew ?_ | refine Below.setCell ?_ (by first | exact Nat.le_refl _ | (simp [size_ovr]; done) | (simp [size_ovr]; omega)) _ | assumption))⟩; rw [clampC_true]; simp only [Int.max_def, Int.min_def]; (repeat' split) <;> omega)
      | false =>
        go_enter Try.func22, Try.ntmps22
        go_wp2
        all_goals (simp [bodyPost, results, Try.results22, go_sem])
        all_goals (rw [hy.out]; refine ⟨⟨by omega, ?_⟩, by (repeat (first | exact Below.refl _ _ | refine Below.alloc ?_ (by first | exact Nat.le_refl _ | (simp [size_ovr]; done) | (simp [size_ovr]; omega)) _ | refine below_ovr_of ?_ | refine drew_below ?_ _ | refine Below.drew ?_ | refine Below.setCell ?_ (by first | exact Nat.le_refl _ | (simp [size_ovr]; done) | (simp [size_ovr]; omega)) _ | assumption))⟩; rw [clampC_false]; simp only [Int.max_def, Int.min_def]; (repeat' split) <;> omega)
    · subst h2
      have hq : 0 ≤ (L.length : Int) - 1 := by omega
      cases past with
      | true =>
        go_enter Try.func22, Try.ntmps22
        go_wp2
        all_goals (simp [bodyPost, results, Try.results22, go_sem])
        all_goals (rw [hy.out]; refine ⟨⟨by omega, ?_⟩, by (repeat (first | exact Below.refl _ _ | refine Below.alloc ?_ (by first | exact Nat.le_refl _ | (simp [size_ovr]; done) | (simp [size_ovr]; omega)) _ | refine below_ovr_of ?_ | refine drew_below ?_ _ | refine Below.drew ?_ | refine Below.setCell ?_ (by first | exact Nat.le_refl _ | (simp [size_ovr]; done) | (simp [size_ovr]; omega)) _ | assumption))⟩; rw [clampC_true]; simp only [Int.max_def, Int.min_def]; (repeat' split) <;> omega)
      | false =>
        go_enter Try.func22, Try.ntmps22
        go_wp2
        all_goals (simp [bodyPost, results, Try.results22, go_sem])
        all_goals (rw [hy.out]; refine ⟨⟨by omega, ?_⟩, by (repeat (first | exact Below.refl _ _ | refine Below.alloc ?_ (by first | exact Nat.le_refl _ | (simp [size_ovr]; done) | (simp [size_ovr]; omega)) _ | refine below_ovr_of ?_ | refine drew_below ?_ _ | refine Below.drew ?_ | refine Below.setCell ?_ (by first | exact Nat.le_refl _ | (simp [size_ovr]; done) | (simp [size_ovr]; omega)) _ | assumption))⟩; rw [clampC_false]; simp only [Int.max_def, Int.min_def]; (repeat' split) <;> omega)

set_option maxHeartbeats 400000 in
theorem equal_any (a a' : Option Addr) (c c' : Nat) (L M : List ByteArray) (w : World) (hL : LinesAt w a L) (hM : LinesAt w a' M) :
    Calls Try.prog 40 #[.slice a L.length c, .slice a' M.length c'] w fun e w' => e = .returned (.bool (sameB L M)) ∧ Below w.heap.size w w' := by
  have h1 := hL.2.1
  have h2 := hM.2.1
  by_cases hn : L.length = M.length
  · have hd : ((L.length : Int) != (M.length : Int)) = false := by rw [bne_eq_false_iff_eq]; omega
    have HL := Lib.hid hL
    have HM := Lib.hid hM
    have HN := Lib.hid hn
    clear hL hM hn
    go_enter Try.func40, Try.ntmps40
    go_wp2
    go_loopw [13] (fun i wr => ∃ k : Nat, k ≤ L.length ∧ i = .int .i64 k ∧ (∀ j, j < k → L.getD j .empty = M.getD j .empty) ∧ ∃ n, wr = w.drewN n) (fun i _ => L.length - (intOf i).toNat)
    case atStart => exact ⟨0, Nat.zero_le _, rfl, fun j hj => absurd hj (by omega), 0, rfl⟩
    case round =>
      obtain ⟨k, hk, rfl, hall, n, rfl⟩ := hrel
      have HA := Lib.hid hall
      clear hall
      by_cases hlt : k < L.length
      · have hlt' : k < M.length := by rw [← HN.out]; exact hlt
        obtain ⟨b, off, rfl, hb, g, _⟩ := HL.out.line hlt
        obtain ⟨b', off', rfl, hb', g', _⟩ := HM.out.line hlt'
        obtain ⟨s, hs⟩ : ∃ s, L.getD k .empty = s := ⟨_, rfl⟩
        obtain ⟨s', hs'⟩ : ∃ s, M.getD k .empty = s := ⟨_, rfl⟩
        rw [hs] at g
        rw [hs'] at g'
        have HE := Lib.hid hs
        have HE' := Lib.hid hs'
        clear hs hs'
        have i1 : (k : Int) < (L.length : Int) := by omega
        have i2 : (k : Int) < (M.length : Int) := by omega
        have i0 : (0 : Int) ≤ (k : Int) := by omega
        go_wp2
        go_quiet (fail)
        cases hb : (s.toList == s'.toList) with
        | true =>
          have hb2 : (!s.toList == s'.toList) = false := by simp [hb]
          go_wp2
          go_roundw
          case rel => exact ⟨k + 1, by omega, by go_num, fun j hj => by
              by_cases hjk : j = k
              · subst hjk; rw [HE.out, HE'.out]; exact toList_inj (beq_iff_eq.1 hb)
              · exact HA.out j (by omega), _, rfl⟩
          case measure => simp [intOf]; omega
        | false =>
          have hb2 : (!s.toList == s'.toList) = true := by simp [hb]
          go_wp2
          go_ret
          exact ⟨ret_bool (sameB_at (j := k) (by rw [HE.out, HE'.out]; intro e; rw [e] at hb; simp at hb)).symm, by (repeat (first | exact Below.refl _ _ | refine Below.alloc ?_ (by first | exact Nat.le_refl _ | (simp [size_ovr]; done) | (simp [size_ovr]; omega)) _ | refine below_ovr_of ?_ | refine drew_below ?_ _ | refine Below.drew ?_ | refine Below.setCell ?_ (by first | exact Nat.le_refl _ | (simp [size_ovr]; done) | (simp [size_ovr]; omega)) _ | assumption))⟩
      · have hy := Lib.hid (sameB_yes HN.out (fun j hj => HA.out j (by omega)))
        go_wp2
        go_ret
        exact ⟨ret_bool (by rw [hy.out]), by (repeat (first | exact Below.refl _ _ | refine Below.alloc ?_ (by first | exact Nat.le_refl _ | (simp [size_ovr]; done) | (simp [size_ovr]; omega)) _ | refine below_ovr_of ?_ | refine drew_below ?_ _ | refine Below.drew ?_ | refine Below.setCell ?_ (by first | exact Nat.le_refl _ | (simp [size_ovr]; done) | (simp [size_ovr]; omega)) _ | assumption))⟩
  · have hd : ((L.length : Int) != (M.length : Int)) = true := by rw [bne_iff_ne]; omega
    have hy := Lib.hid (sameB_no (L := L) (M := M) (fun h => hn (by rw [h])))
    go_enter Try.func40, Try.ntmps40
    go_wp2
    go_ret
    exact ⟨ret_bool (by rw [hy.out]), by (repeat (first | exact Below.refl _ _ | refine Below.alloc ?_ (by first | exact Nat.le_refl _ | (simp [size_ovr]; done) | (simp [size_ovr]; omega)) _ | refine below_ovr_of ?_ | refine drew_below ?_ _ | refine Below.drew ?_ | refine Below.setCell ?_ (by first | exact Nat.le_refl _ | (simp [size_ovr]; done) | (simp [size_ovr]; omega)) _ | assumption))⟩

theorem same_any (a a' : Option Addr) (c c' : Nat) (L M : List ByteArray) (w : World) (hL : LinesAt w a L) (hM : LinesAt w a' M) :
    Calls Try.prog 25 #[.slice a L.length c, .slice a' M.length c'] w fun e w' => e = .returned (.bool (sameB L M)) ∧ Below w.heap.size w w' := by
  go_enter Try.func25, Try.ntmps25
  go_wp2_with (go_at_call 40; refine (equal_any _ _ _ _ _ _ _ hL hM).mono ?_; rintro e w1 ⟨rfl, hbl⟩)
  go_ret
  exact ⟨rfl, hbl⟩
end Go.Proofs.Ytjkilpnbaaiglaa
