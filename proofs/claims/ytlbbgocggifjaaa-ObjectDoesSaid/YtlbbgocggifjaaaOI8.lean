/- Several texts in one: Base0, OfSame, Pos0, Line, Pair, Pair2. Conditions: none beyond what each says. -/
import Derived.Test.YtlbbgocggifjaaaRows
import Derived.Test.YtlbbgocggifjaaaWorld
import Derived.Test.YtlbbgocggifjaaaPlain
import Derived.Test.YtlbbgocggifjaaaPairP
namespace Go.Proofs.Ytlbbgocggifjaaa
open Go.RowKit

set_option maxHeartbeats 400000 in
theorem of_any (c : Int) (big : Bool) (w : World) :
    Calls Try.prog 103 #[.int .u8 c, .bool big] w fun e w' => e = .returned (.int .i64 (ofC c big)) ∧ w = w' := by
  go_enter Try.func103, Try.ntmps103
  go_wp2
  all_goals (go_ret; refine ⟨?_, rfl⟩; simp_all [ofC]; try omega)

set_option maxHeartbeats 400000 in
theorem rof_any (c : Int) (big : Bool) (w : World) :
    Calls Try.prog 101 #[.int .u8 c, .bool big] w fun e w' => e = .returned (.int .i64 (ofC c big)) ∧ w = w' := by
  go_enter Try.func101, Try.ntmps101
  go_wp2
  all_goals (go_ret; refine ⟨?_, rfl⟩; simp_all [ofC]; try omega)

set_option maxHeartbeats 400000 in
theorem light_any (a : Option Addr) (c : Nat) (L : List ByteArray) (w : World) (hL : LinesAt w a L) :
    Calls Try.prog 22 #[.slice a L.length c] w fun e w' => e = .returned (.bool (lightB L)) ∧ w = w' := by
  have h0 := hL.2.1
  by_cases h40 : L.length ≤ 40
  · rcases hL.split with hnil | ⟨b, off, rfl, hb, hpos, hcell, hsz⟩
    · subst hnil
      have hy := Lib.hid (light_yes (L := []) (by simp [total, noLF]))
      go_enter Try.func22, Try.ntmps22
      go_wp2
      go_loop [4] (fun i => i = .int .i64 0) (fun i => 0)
      case atStart => rfl
      case round =>
        subst hrel
        go_wp2
        go_ret
        exact ⟨ret_bool (by rw [hy.out]), rfl⟩
    · have HC := Lib.hid hcell
      have HS := Lib.hid hsz
      clear hcell hsz hL
      go_enter Try.func22, Try.ntmps22
      go_wp2
      go_loop [3, 4] (fun n i => ∃ k : Nat, k ≤ L.length ∧ i = .int .i64 k ∧ n = .int .i64 (total (L.take k)) ∧ total (L.take k) ≤ 1200 ∧ noLF (L.take k)) (fun _ i => L.length - (intOf i).toNat)
      case atStart => exact ⟨0, Nat.zero_le _, rfl, by simp [total], by simp [total], by simp [noLF]⟩
      case round =>
        obtain ⟨k, hk, rfl, rfl, ht, hn⟩ := hrel
        have HN := Lib.hid hn
        clear hn
        by_cases hlt : k < L.length
        · obtain ⟨s, hs⟩ : ∃ s, L.getD k .empty = s := ⟨_, rfl⟩
          have g := HC.out k hlt
          have gs := HS.out k hlt
          have hts := total_snoc L k hlt
          rw [hs] at g gs hts
          have HE := Lib.hid hs
          have HT := Lib.hid hts
          clear hs hts
          by_cases h12 : total (L.take k) + s.size ≤ 1200
          · have h12' : (total (L.take k) : Int) + (s.size : Int) ≤ 1200 := by omega
            go_wp2
            go_loop [5] (fun j => ∃ i : Nat, i ≤ s.size ∧ j = .int .i64 i ∧ cleanTo s i) (fun j => s.size - (intOf j).toNat)
            case atStart => exact ⟨0, Nat.zero_le _, rfl, cleanTo_zero s⟩
            case round =>
              obtain ⟨i, hi, rfl, hcl⟩ := hrel
              have HCL := Lib.hid hcl
              clear hcl
              by_cases hil : i < s.size
              · cases hb : ((s[i].toNat : Int) == 10) with
                | true =>
                  go_wp2
                  go_ret
                  exact ⟨ret_bool (light_no (fun h => noLF_not hlt (by rw [HE.out]; exact lf_at hil hb) h.2.2)).symm, rfl⟩
                | false =>
                  go_wp2
                  go_round
                  case rel => exact ⟨i + 1, by omega, by go_num, cleanTo_snoc hil HCL.out hb⟩
                  case measure => simp [intOf]; omega
              · go_wp2
                go_round
                case rel => exact ⟨k + 1, by omega, by go_num, by rw [HT.out]; go_num, by rw [HT.out]; exact h12, noLF_snoc hlt HN.out (by rw [HE.out]; exact cleanTo_all (by omega) HCL.out)⟩
                case measure => simp [intOf]; omega
          · have h12' : ¬ (total (L.take k) : Int) + (s.size : Int) ≤ 1200 := by omega
            go_wp2
            go_ret
            exact ⟨ret_bool (light_no (fun h => h12 (by have := total_take_le L (k + 1); have := HT.out; omega))).symm, rfl⟩
        · go_wp2
          go_ret
          exact ⟨ret_bool (light_yes ⟨h40, by rw [List.take_of_length_le (by omega)] at ht; exact ht, by have := HN.out; rw [List.take_of_length_le (by omega)] at this; exact this⟩).symm, rfl⟩
  · have hy := Lib.hid (light_no (L := L) (fun h => h40 h.1))
    have h41 : (40 : Int) < (L.length : Int) := by omega
    go_enter Try.func22, Try.ntmps22
    go_wp2
    go_ret
    exact ⟨ret_bool (by rw [hy.out]), rfl⟩
end Go.Proofs.Ytlbbgocggifjaaa
namespace Go.Proofs.Ytlbbgocggifjaaa
open Go.RowKit

theorem of_same (c : Int) (big : Bool) (w : World) : Calls Try.prog 103 #[.int .u8 c, .bool big] w fun e w' => e = .returned (.int .i64 (ofC c big)) ∧ w' = w :=
  (of_any c big w).mono fun _ _ ⟨h1, h2⟩ => ⟨h1, h2.symm⟩
theorem rof_same (c : Int) (big : Bool) (w : World) : Calls Try.prog 101 #[.int .u8 c, .bool big] w fun e w' => e = .returned (.int .i64 (ofC c big)) ∧ w' = w :=
  (rof_any c big w).mono fun _ _ ⟨h1, h2⟩ => ⟨h1, h2.symm⟩
end Go.Proofs.Ytlbbgocggifjaaa
namespace Go.Proofs.Ytlbbgocggifjaaa
open Go.RowKit

set_option maxHeartbeats 400000 in
theorem text_any (a : Option Addr) (c : Nat) (L : List ByteArray) (w : World) (hL : LinesAt w a L) :
    Calls Try.prog 30 #[.slice a L.length c] w fun e w' => e = .returned (.bool (textB L)) ∧ w = w' := by
  by_cases h0 : L.length = 0
  · have hd : decide ((0 : Int) < (L.length : Int)) = false := decide_eq_false (by omega)
    have hy := Lib.hid (text_no (L := L) (fun h => by omega))
    go_enter Try.func30, Try.ntmps30
    go_wp2
    go_ret
    exact ⟨ret_bool (by rw [hy.out]), rfl⟩
  · have hd : (0 : Int) < (L.length : Int) := by omega
    have hy := Lib.hid (text_eq (L := L) (by omega))
    go_enter Try.func30, Try.ntmps30
    go_wp2_with (go_at_call 22; refine (light_any _ _ _ _ hL).mono ?_; rintro e w1 ⟨rfl, rfl⟩)
    go_ret
    exact ⟨ret_bool (by rw [hy.out]), rfl⟩

set_option maxHeartbeats 400000 in
theorem place_any (a : Option Addr) (cap : Nat) (L : List ByteArray) (l c : Int) (w : World) (hL : LinesAt w a L) :
    Calls Try.prog 109 #[.slice a L.length cap, .agg #[.int .i64 l, .int .i64 c]] w fun e w' => e = .returned (.bool (plcB L l c)) ∧ Below w.heap.size w w' := by
  have hn := hL.2.1
  by_cases h1 : 0 ≤ l
  · by_cases h2 : l < L.length
    · by_cases h3 : 0 ≤ c
      · obtain ⟨b, off, rfl, hb, hc, hs⟩ := hL.line (i := l.toNat) (by omega)
        have hy := Lib.hid (plcB_in (L := L) h1 h2 h3)
        generalize L.getD l.toNat .empty = s at hc hs hy
        go_enter Try.func109, Try.ntmps109
        go_wp2
        go_quiet (fail)
        go_wp2
        go_ret
        exact ⟨ret_bool (by rw [hy.out]), by (repeat (first | exact Below.refl _ _ | refine Below.alloc ?_ (by first | exact Nat.le_refl _ | (simp; done) | (simp; omega)) _ | refine below_ovr_of ?_ | refine drew_below ?_ _ | refine Below.drew ?_ | refine Below.setCell ?_ (by first | exact Nat.le_refl _ | (simp; done) | (simp; omega)) _ | assumption))⟩
      · have hd : decide (0 ≤ c) = false := decide_eq_false h3
        have hy := Lib.hid (plcB_out (L := L) (l := l) (c := c) (fun h => h3 h.2.2.1))
        go_enter Try.func109, Try.ntmps109
        go_wp2
        go_quiet (fail)
        go_wp2
        go_ret
        exact ⟨ret_bool (by rw [hy.out]), by (repeat (first | exact Below.refl _ _ | refine Below.alloc ?_ (by first | exact Nat.le_refl _ | (simp; done) | (simp; omega)) _ | refine below_ovr_of ?_ | refine drew_below ?_ _ | refine Below.drew ?_ | refine Below.setCell ?_ (by first | exact Nat.le_refl _ | (simp; done) | (simp; omega)) _ | assumption))⟩
    · have hd : decide (l < (L.length : Int)) = false := decide_eq_false h2
      have hy := Lib.hid (plcB_out (L := L) (l := l) (c := c) (fun h => h2 h.2.1))
      go_enter Try.func109, Try.ntmps109
      go_wp2
      go_quiet (fail)
      go_wp2
      go_ret
      exact ⟨ret_bool (by rw [hy.out]), by (repeat (first | exact Below.refl _ _ | refine Below.alloc ?_ (by first | exact Nat.le_refl _ | (simp; done) | (simp; omega)) _ | refine below_ovr_of ?_ | refine drew_below ?_ _ | refine Below.drew ?_ | refine Below.setCell ?_ (by first | exact Nat.le_refl _ | (simp; done) | (simp; omega)) _ | assumption))⟩
  · have hd : decide (0 ≤ l) = false := decide_eq_false h1
    have hy := Lib.hid (plcB_out (L := L) (l := l) (c := c) (fun h => h1 h.1))
    go_enter Try.func109, Try.ntmps109
    go_wp2
    go_quiet (fail)
    go_wp2
    go_ret
    exact ⟨ret_bool (by rw [hy.out]), by (repeat (first | exact Below.refl _ _ | refine Below.alloc ?_ (by first | exact Nat.le_refl _ | (simp; done) | (simp; omega)) _ | refine below_ovr_of ?_ | refine drew_below ?_ _ | refine Below.drew ?_ | refine Below.setCell ?_ (by first | exact Nat.le_refl _ | (simp; done) | (simp; omega)) _ | assumption))⟩

set_option maxHeartbeats 400000 in
theorem seat_any (a : Option Addr) (cap : Nat) (L : List ByteArray) (x y : Int) (w : World) (hL : LinesAt w a L) (h0 : 0 < L.length) (hx : 0 ≤ x ∧ x ≤ 65535) (hy : 0 ≤ y ∧ y ≤ 65535) :
    Calls Try.prog 31 #[.slice a L.length cap, .int .u16 x, .int .u16 y] w fun e w' =>
      e = .returned (.agg #[.int .i64 (seatL L x), .int .i64 (seatC L x y)]) ∧ Below w.heap.size w w' := by
  have hn := hL.2.1
  obtain ⟨hx0, hx1⟩ := hx
  obtain ⟨hy0, hy1⟩ := hy
  have hl := seatL_in (L := L) (x := x) h0 hx0
  have hc := seatC_eq L x y
  have hll := seatL_eq L x
  obtain ⟨b, off, rfl, hb, hcell, hs⟩ := hL.line (i := (seatL L x).toNat) (by omega)
  generalize L.getD (seatL L x).toNat .empty = s at hcell hs hc
  rw [hll] at hcell hl
  have HC := Lib.hid hc
  have HLL := Lib.hid hll
  clear hc hll
  obtain ⟨hl0, hl1⟩ := hl
  go_enter Try.func31, Try.ntmps31
  go_wp2
  rw [HC.out, HLL.out]
  refine bodyPost_ret (v := .agg #[.int .i64 (x % ↑L.length), .int .i64 (y % (↑s.size + 1))]) (by simp [results, Try.results31, go_sem]) rfl ⟨rfl, by (repeat (first | exact Below.refl _ _ | refine Below.alloc ?_ (by first | exact Nat.le_refl _ | (simp; done) | (simp; omega)) _ | refine below_ovr_of ?_ | refine drew_below ?_ _ | refine Below.drew ?_ | refine Below.setCell ?_ (by first | exact Nat.le_refl _ | (simp; done) | (simp; omega)) _ | assumption))⟩

set_option maxHeartbeats 400000 in
theorem less_any (a b c d : Int) (w : World) :
    Calls Try.prog 95 #[.agg #[.int .i64 a, .int .i64 b], .agg #[.int .i64 c, .int .i64 d]] w fun e w' => e = .returned (.bool (lessB a b c d)) ∧ Below w.heap.size w w' := by
  have hy := Lib.hid (lessB_eq a b c d)
  go_enter Try.func95, Try.ntmps95
  go_wp2
  all_goals (go_ret; exact ⟨ret_bool (by rw [hy.out, Bool.eq_iff_iff]; simp; omega), by (repeat (first | exact Below.refl _ _ | refine Below.alloc ?_ (by first | exact Nat.le_refl _ | (simp; done) | (simp; omega)) _ | refine below_ovr_of ?_ | refine drew_below ?_ _ | refine Below.drew ?_ | refine Below.setCell ?_ (by first | exact Nat.le_refl _ | (simp; done) | (simp; omega)) _ | assumption))⟩)

theorem rless_any (a b c d : Int) (w : World) :
    Calls Try.prog 72 #[.agg #[.int .i64 a, .int .i64 b], .agg #[.int .i64 c, .int .i64 d]] w fun e w' => e = .returned (.bool (lessB a b c d)) ∧ Below w.heap.size w w' := by
  have hy := Lib.hid (lessB_eq a b c d)
  go_enter Try.func72, Try.ntmps72
  go_wp2
  all_goals (go_ret; exact ⟨ret_bool (by rw [hy.out, Bool.eq_iff_iff]; simp; omega), by (repeat (first | exact Below.refl _ _ | refine Below.alloc ?_ (by first | exact Nat.le_refl _ | (simp; done) | (simp; omega)) _ | refine below_ovr_of ?_ | refine drew_below ?_ _ | refine Below.drew ?_ | refine Below.setCell ?_ (by first | exact Nat.le_refl _ | (simp; done) | (simp; omega)) _ | assumption))⟩)

/-! The class of a place's function in the references: the same text as the program's. -/
set_option maxHeartbeats 400000 in
theorem rplace_any (a : Option Addr) (cap : Nat) (L : List ByteArray) (l c : Int) (w : World) (hL : LinesAt w a L) :
    Calls Try.prog 52 #[.slice a L.length cap, .agg #[.int .i64 l, .int .i64 c]] w fun e w' => e = .returned (.bool (plcB L l c)) ∧ Below w.heap.size w w' := by
  have hn := hL.2.1
  by_cases h1 : 0 ≤ l
  · by_cases h2 : l < L.length
    · by_cases h3 : 0 ≤ c
      · obtain ⟨b, off, rfl, hb, hc, hs⟩ := hL.line (i := l.toNat) (by omega)
        have hy := Lib.hid (plcB_in (L := L) h1 h2 h3)
        generalize L.getD l.toNat .empty = s at hc hs hy
        go_enter Try.func52, Try.ntmps52
        go_wp2
        go_quiet (fail)
        go_wp2
        go_ret
        exact ⟨ret_bool (by rw [hy.out]), by (repeat (first | exact Below.refl _ _ | refine Below.alloc ?_ (by first | exact Nat.le_refl _ | (simp; done) | (simp; omega)) _ | refine below_ovr_of ?_ | refine drew_below ?_ _ | refine Below.drew ?_ | refine Below.setCell ?_ (by first | exact Nat.le_refl _ | (simp; done) | (simp; omega)) _ | assumption))⟩
      · have hd : decide (0 ≤ c) = false := decide_eq_false h3
        have hy := Lib.hid (plcB_out (L := L) (l := l) (c := c) (fun h => h3 h.2.2.1))
        go_enter Try.func52, Try.ntmps52
        go_wp2
        go_quiet (fail)
        go_wp2
        go_ret
        exact ⟨ret_bool (by rw [hy.out]), by (repeat (first | exact Below.refl _ _ | refine Below.alloc ?_ (by first | exact Nat.le_refl _ | (simp; done) | (simp; omega)) _ | refine below_ovr_of ?_ | refine drew_below ?_ _ | refine Below.drew ?_ | refine Below.setCell ?_ (by first | exact Nat.le_refl _ | (simp; done) | (simp; omega)) _ | assumption))⟩
    · have hd : decide (l < (L.length : Int)) = false := decide_eq_false h2
      have hy := Lib.hid (plcB_out (L := L) (l := l) (c := c) (fun h => h2 h.2.1))
      go_enter Try.func52, Try.ntmps52
      go_wp2
      go_quiet (fail)
      go_wp2
      go_ret
      exact ⟨ret_bool (by rw [hy.out]), by (repeat (first | exact Below.refl _ _ | refine Below.alloc ?_ (by first | exact Nat.le_refl _ | (simp; done) | (simp; omega)) _ | refine below_ovr_of ?_ | refine drew_below ?_ _ | refine Below.drew ?_ | refine Below.setCell ?_ (by first | exact Nat.le_refl _ | (simp; done) | (simp; omega)) _ | assumption))⟩
  · have hd : decide (0 ≤ l) = false := decide_eq_false h1
    have hy := Lib.hid (plcB_out (L := L) (l := l) (c := c) (fun h => h1 h.1))
    go_enter Try.func52, Try.ntmps52
    go_wp2
    go_quiet (fail)
    go_wp2
    go_ret
    exact ⟨ret_bool (by rw [hy.out]), by (repeat (first | exact Below.refl _ _ | refine Below.alloc ?_ (by first | exact Nat.le_refl _ | (simp; done) | (simp; omega)) _ | refine below_ovr_of ?_ | refine drew_below ?_ _ | refine Below.drew ?_ | refine Below.setCell ?_ (by first | exact Nat.le_refl _ | (simp; done) | (simp; omega)) _ | assumption))⟩
end Go.Proofs.Ytlbbgocggifjaaa
namespace Go.Proofs.Ytlbbgocggifjaaa
open Go.RowKit

/-- A line, by a number that is known. -/
theorem line_facts' {w : World} {a : Option Addr} {L : List ByteArray} (hL : LinesAt w a L) {i : Nat} (h : i < L.length) :
    ∃ b off s, a = some ⟨b, off, none⟩ ∧ b < w.heap.size ∧ w.cell? ⟨b, off + i, none⟩ = some (.string s) ∧ s.size ≤ 140737488351232 ∧ Hid (L.getD i .empty = s) := by
  obtain ⟨b, off, e, hb, hc, hs⟩ := hL.line h
  exact ⟨b, off, _, e, hb, hc, hs, Lib.hid rfl⟩
end Go.Proofs.Ytlbbgocggifjaaa
namespace Go.Proofs.Ytlbbgocggifjaaa
open Go.RowKit

set_option maxHeartbeats 1000000 in
theorem kind_any (c : Int) (w : World) : Calls Try.prog 48 #[.int .u8 c] w fun e w' =>
    e = .returned (.tuple #[.int .u8 (kindP c).1, .int .u8 (kindP c).2.1, .bool (kindP c).2.2.1, .bool (kindP c).2.2.2]) ∧ w = w' := by
  by_cases k40 : c = 40
  · subst k40
    have HP : Hid (kindP 40 = (40, 41, true, true)) := Lib.hid (by decide)
    go_enter Try.func48, Try.ntmps48
    go_wp2
    exact bodyPost_ret (v := .tuple #[.int .u8 40, .int .u8 41, .bool true, .bool true]) (by simp [results, Try.results48, go_sem]) rfl ⟨by rw [HP.out], rfl⟩
  by_cases k41 : c = 41
  · subst k41
    have HP : Hid (kindP 41 = (40, 41, false, true)) := Lib.hid (by decide)
    go_enter Try.func48, Try.ntmps48
    go_wp2
    exact bodyPost_ret (v := .tuple #[.int .u8 40, .int .u8 41, .bool false, .bool true]) (by simp [results, Try.results48, go_sem]) rfl ⟨by rw [HP.out], rfl⟩
  by_cases k91 : c = 91
  · subst k91
    have HP : Hid (kindP 91 = (91, 93, true, true)) := Lib.hid (by decide)
    go_enter Try.func48, Try.ntmps48
    go_wp2
    exact bodyPost_ret (v := .tuple #[.int .u8 91, .int .u8 93, .bool true, .bool true]) (by simp [results, Try.results48, go_sem]) rfl ⟨by rw [HP.out], rfl⟩
  by_cases k93 : c = 93
  · subst k93
    have HP : Hid (kindP 93 = (91, 93, false, true)) := Lib.hid (by decide)
    go_enter Try.func48, Try.ntmps48
    go_wp2
    exact bodyPost_ret (v := .tuple #[.int .u8 91, .int .u8 93, .bool false, .bool true]) (by simp [results, Try.results48, go_sem]) rfl ⟨by rw [HP.out], rfl⟩
  by_cases k123 : c = 123
  · subst k123
    have HP : Hid (kindP 123 = (123, 125, true, true)) := Lib.hid (by decide)
    go_enter Try.func48, Try.ntmps48
    go_wp2
    exact bodyPost_ret (v := .tuple #[.int .u8 123, .int .u8 125, .bool true, .bool true]) (by simp [results, Try.results48, go_sem]) rfl ⟨by rw [HP.out], rfl⟩
  by_cases k125 : c = 125
  · subst k125
    have HP : Hid (kindP 125 = (123, 125, false, true)) := Lib.hid (by decide)
    go_enter Try.func48, Try.ntmps48
    go_wp2
    exact bodyPost_ret (v := .tuple #[.int .u8 123, .int .u8 125, .bool false, .bool true]) (by simp [results, Try.results48, go_sem]) rfl ⟨by rw [HP.out], rfl⟩
  have HP : Hid (kindP c = (0, 0, false, false)) := Lib.hid (by simp [kindP, k40, k41, k91, k93, k123, k125])
  have b1 : (c == 40) = false := beq_eq_false_iff_ne.2 k40
  have b2 : (c == 41) = false := beq_eq_false_iff_ne.2 k41
  have b3 : (c == 91) = false := beq_eq_false_iff_ne.2 k91
  have b4 : (c == 93) = false := beq_eq_false_iff_ne.2 k93
  have b5 : (c == 123) = false := beq_eq_false_iff_ne.2 k123
  have b6 : (c == 125) = false := beq_eq_false_iff_ne.2 k125
  clear k40 k41 k91 k93 k123 k125
  go_enter Try.func48, Try.ntmps48
  go_wp2
  exact bodyPost_ret (v := .tuple #[.int .u8 0, .int .u8 0, .bool false, .bool false]) (by simp [results, Try.results48, go_sem]) rfl ⟨by rw [HP.out], rfl⟩
set_option maxHeartbeats 1000000 in
theorem rkind_any (c : Int) (w : World) : Calls Try.prog 49 #[.int .u8 c] w fun e w' =>
    e = .returned (.tuple #[.int .u8 (kindP c).1, .int .u8 (kindP c).2.1, .bool (kindP c).2.2.1, .bool (kindP c).2.2.2]) ∧ w = w' := by
  by_cases k40 : c = 40
  · subst k40
    have HP : Hid (kindP 40 = (40, 41, true, true)) := Lib.hid (by decide)
    go_enter Try.func49, Try.ntmps49
    go_wp2
    exact bodyPost_ret (v := .tuple #[.int .u8 40, .int .u8 41, .bool true, .bool true]) (by simp [results, Try.results49, go_sem]) rfl ⟨by rw [HP.out], rfl⟩
  by_cases k41 : c = 41
  · subst k41
    have HP : Hid (kindP 41 = (40, 41, false, true)) := Lib.hid (by decide)
    go_enter Try.func49, Try.ntmps49
    go_wp2
    exact bodyPost_ret (v := .tuple #[.int .u8 40, .int .u8 41, .bool false, .bool true]) (by simp [results, Try.results49, go_sem]) rfl ⟨by rw [HP.out], rfl⟩
  by_cases k91 : c = 91
  · subst k91
    have HP : Hid (kindP 91 = (91, 93, true, true)) := Lib.hid (by decide)
    go_enter Try.func49, Try.ntmps49
    go_wp2
    exact bodyPost_ret (v := .tuple #[.int .u8 91, .int .u8 93, .bool true, .bool true]) (by simp [results, Try.results49, go_sem]) rfl ⟨by rw [HP.out], rfl⟩
  by_cases k93 : c = 93
  · subst k93
    have HP : Hid (kindP 93 = (91, 93, false, true)) := Lib.hid (by decide)
    go_enter Try.func49, Try.ntmps49
    go_wp2
    exact bodyPost_ret (v := .tuple #[.int .u8 91, .int .u8 93, .bool false, .bool true]) (by simp [results, Try.results49, go_sem]) rfl ⟨by rw [HP.out], rfl⟩
  by_cases k123 : c = 123
  · subst k123
    have HP : Hid (kindP 123 = (123, 125, true, true)) := Lib.hid (by decide)
    go_enter Try.func49, Try.ntmps49
    go_wp2
    exact bodyPost_ret (v := .tuple #[.int .u8 123, .int .u8 125, .bool true, .bool true]) (by simp [results, Try.results49, go_sem]) rfl ⟨by rw [HP.out], rfl⟩
  by_cases k125 : c = 125
  · subst k125
    have HP : Hid (kindP 125 = (123, 125, false, true)) := Lib.hid (by decide)
    go_enter Try.func49, Try.ntmps49
    go_wp2
    exact bodyPost_ret (v := .tuple #[.int .u8 123, .int .u8 125, .bool false, .bool true]) (by simp [results, Try.results49, go_sem]) rfl ⟨by rw [HP.out], rfl⟩
  have HP : Hid (kindP c = (0, 0, false, false)) := Lib.hid (by simp [kindP, k40, k41, k91, k93, k123, k125])
  have b1 : (c == 40) = false := beq_eq_false_iff_ne.2 k40
  have b2 : (c == 41) = false := beq_eq_false_iff_ne.2 k41
  have b3 : (c == 91) = false := beq_eq_false_iff_ne.2 k91
  have b4 : (c == 93) = false := beq_eq_false_iff_ne.2 k93
  have b5 : (c == 123) = false := beq_eq_false_iff_ne.2 k123
  have b6 : (c == 125) = false := beq_eq_false_iff_ne.2 k125
  clear k40 k41 k91 k93 k123 k125
  go_enter Try.func49, Try.ntmps49
  go_wp2
  exact bodyPost_ret (v := .tuple #[.int .u8 0, .int .u8 0, .bool false, .bool false]) (by simp [results, Try.results49, go_sem]) rfl ⟨by rw [HP.out], rfl⟩
end Go.Proofs.Ytlbbgocggifjaaa
namespace Go.Proofs.Ytlbbgocggifjaaa
open Go.RowKit

/-- A place, and whether there is one, as a value. -/
abbrev plcV (r : (Int × Int) × Bool) : Value := .tuple #[.agg #[.int .i64 r.1.1, .int .i64 r.1.2], .bool r.2]
attribute [go_sem] plcV
def noPlc : (Int × Int) × Bool := ((0, 0), false)
def atPlc (L : List ByteArray) (j : Nat) : (Int × Int) × Bool := ((((plcOf L j).1 : Int), ((plcOf L j).2 : Int)), true)
def nxtP (L : List ByteArray) (j : Nat) : (Int × Int) × Bool := if j < total L then atPlc L j else noPlc
def prvP (L : List ByteArray) (i : Nat) : (Int × Int) × Bool := if i = 0 then noPlc else atPlc L (i - 1)
theorem atPlc_eq {L : List ByteArray} {j l c : Nat} (h : l < L.length) (h2 : c < (L.getD l .empty).size) (hj : idx L l c = j) : atPlc L j = (((l : Int), (c : Int)), true) := by
  subst hj; rw [atPlc, plcOf_idx h h2]
theorem ret_plc {a b c d : Int} {x y : Bool} (h1 : a = c) (h2 : b = d) (h3 : x = y) : Ending.returned (.tuple #[.agg #[.int .i64 a, .int .i64 b], .bool x]) = Ending.returned (.tuple #[.agg #[.int .i64 c, .int .i64 d], .bool y]) := by rw [h1, h2, h3]

set_option maxHeartbeats 2000000 in
theorem next_back (a : Option Addr) (cap : Nat) (L : List ByteArray) (l c : Nat) (w : World) (hL : LinesAt w a L) (hl : l < L.length) (hc : c ≤ (L.getD l .empty).size) :
    Calls Try.prog 114 #[.slice a L.length cap, .agg #[.int .i64 l, .int .i64 c], .bool true] w fun e w' => e = .returned (plcV (prvP L (idx L l c))) ∧ Below w.heap.size w w' := by
  have hn := hL.2.1
  have hcs : c ≤ 140737488351232 := by
    have := hL.2.2 _ (getD_mem L .empty l hl)
    omega
  obtain ⟨i, hi⟩ : ∃ i, idx L l c = i := ⟨_, rfl⟩
  rw [hi]
  have HI : Hid (total (L.take l) + c = i) := Lib.hid hi
  have HC := Lib.hid hc
  clear hi hc
  go_enter Try.func114, Try.ntmps114
  go_wp2
  go_loopw [7] (fun q wr => q = .bool false ∧ ∃ (l' : Nat) (c' : Int), l' < L.length ∧ -1 ≤ c' ∧ c' ≤ 140737488351232 ∧ Hid (c' < (L.getD l' .empty).size ∧ (total (L.take l') : Int) + c' + 1 = i) ∧
    wr = (w.alloc (.cells #[.int .i64 l', .int .i64 c'] 29)).alloc (.cells #[.int .i64 0, .int .i64 0] 29)) (fun _ wr => (intOf ((wr.cell? ⟨w.heap.size, 0, none⟩).getD undef)).toNat)
  case atStart => exact ⟨rfl, l, (c : Int) - 1, hl, by omega, by omega, Lib.hid ⟨by have := HC.out; omega, by have := HI.out; omega⟩, rfl⟩
  case round =>
    obtain ⟨rfl, l', c', hl', hc1, hc2, HH, rfl⟩ := hrel
    by_cases h0 : 0 ≤ c'
    · obtain ⟨c', rfl⟩ := Int.eq_ofNat_of_zero_le h0
      have hy : prvP L i = (((l' : Int), (c' : Int)), true) := by
        have hh := HH.out
        rw [prvP, if_neg (by omega)]
        exact atPlc_eq hl' (by omega) (by unfold idx; omega)
      have HY := Lib.hid hy
      clear hy
      go_wp2
      refine bodyPost_ret (v := plcV (((l' : Int), (c' : Int)), true)) (by simp [results, Try.results114, go_sem]) rfl ⟨by rw [HY.out], by (repeat (first | with_reducible exact Below.refl _ _ | (with_reducible refine Below.setCell ?_ ?_ _; rotate_left; · (first | exact Nat.le_refl _ | assumption | omega | (simp; done) | (simp; omega))) | (with_reducible refine Below.alloc ?_ ?_ _; rotate_left; · (first | exact Nat.le_refl _ | assumption | omega | (simp; done) | (simp; omega))) | with_reducible refine below_ovr_of ?_ | with_reducible refine drew_below ?_ _ | with_reducible refine Below.drew ?_ | with_reducible assumption))⟩
    · have hc3 : c' < 0 := by omega
      cases l' with
      | zero =>
        have hy : prvP L i = noPlc := by
          have hh := HH.out
          simp [total] at hh
          rw [prvP, if_pos (by omega)]
        have HY := Lib.hid hy
        clear hy
        go_wp2
        refine bodyPost_ret (v := plcV noPlc) (by simp [results, Try.results114, go_sem, noPlc]) rfl ⟨by rw [HY.out], by (repeat (first | with_reducible exact Below.refl _ _ | (with_reducible refine Below.setCell ?_ ?_ _; rotate_left; · (first | exact Nat.le_refl _ | assumption | omega | (simp; done) | (simp; omega))) | (with_reducible refine Below.alloc ?_ ?_ _; rotate_left; · (first | exact Nat.le_refl _ | assumption | omega | (simp; done) | (simp; omega))) | with_reducible refine below_ovr_of ?_ | with_reducible refine drew_below ?_ _ | with_reducible refine Below.drew ?_ | with_reducible assumption))⟩
      | succ m =>
        have hm : m < L.length := by omega
        have hmI : (m : Int) < (L.length : Int) := by omega
        obtain ⟨b, off, s, rfl, hb, hcell, hs, HS⟩ := line_facts' hL hm
        have HT := Lib.hid (total_snoc L m hm)
        have hm1 : ((m + 1 : Nat) : Int) - 1 = (m : Int) := by omega
        go_wp2
        go_roundw
        case rel =>
          refine ⟨rfl, m, (s.size : Int) - 1, hm, by omega, by omega, Lib.hid ⟨by rw [HS.out]; omega, ?_⟩, ?_⟩
          · have hh := HH.out
            have ht := HT.out
            rw [HS.out] at ht
            omega
          · simp
        case measure => simp [intOf, go_sem]
end Go.Proofs.Ytlbbgocggifjaaa
