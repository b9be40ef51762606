/- The contracts: is a place a byte's; ranges of bytes. Conditions: none beyond what each says. -/
import Derived.Test.YtlbbgocggifjaaaOI1
import Derived.Test.YtlbbgocggifjaaaOI8
import Derived.Deep.RegionHeld3
namespace Go.Proofs.Ytlbbgocggifjaaa
open Go.RowKit

theorem place_at (a : Option Addr) (cap : Nat) (L : List ByteArray) (l c : Int) (w : World) (hL : LinesAt w a L) {q : Bool} (h : Hid (plcB L l c = q)) :
    Calls Try.prog 109 #[.slice a L.length cap, .agg #[.int .i64 l, .int .i64 c]] w fun e w' => e = .returned (.bool q) ∧ Below w.heap.size w w' := by
  have := place_any a cap L l c w hL
  rw [h.out] at this
  exact this
theorem rplace_at (a : Option Addr) (cap : Nat) (L : List ByteArray) (l c : Int) (w : World) (hL : LinesAt w a L) {q : Bool} (h : Hid (plcB L l c = q)) :
    Calls Try.prog 52 #[.slice a L.length cap, .agg #[.int .i64 l, .int .i64 c]] w fun e w' => e = .returned (.bool q) ∧ Below w.heap.size w w' := by
  have := rplace_any a cap L l c w hL
  rw [h.out] at this
  exact this
set_option maxHeartbeats 1000000 in
theorem byte_any (a : Option Addr) (cap : Nat) (L : List ByteArray) (pl pc : Int) (w : World) (hL : LinesAt w a L) :
    Calls Try.prog 139 #[.slice a L.length cap, .agg #[.int .i64 pl, .int .i64 pc]] w fun e w' => e = .returned (.bool (byteB L pl pc)) ∧ Below w.heap.size w w' := by
  have hn := hL.2.1
  cases hp : plcB L pl pc with
  | false =>
    have HB := Lib.hid (byteB_no hp)
    have HP := Lib.hid hp
    clear hp
    go_enter Try.func139, Try.ntmps139
    go_wp2
    (refine wp_region_ovr (by kernel_rfl) (by kernel_rfl) ?_; (repeat (go_big_quiet_step ((go_at_call 109; exact quiet_ovr (place_at _ _ L _ _ _ (by (repeat (first | assumption | refine LinesAt.ovr ?_ _ | refine LinesAt.alloc ?_ _ | refine LinesAt.drewN ?_ _ | refine LinesAt.drew ?_))) HP))))); refine wpQuiet_nil ?_; rintro _ ⟨zq, rfl⟩)
    go_wp2
    go_ret
    exact ⟨ret_bool HB.out.symm, by (repeat (first | exact Below.refl _ _ | refine Below.alloc ?_ (by first | exact Nat.le_refl _ | (simp; done) | (simp; omega)) _ | refine below_ovr_of ?_ | refine drew_below ?_ _ | refine Below.drew ?_ | refine Below.setCell ?_ (by first | exact Nat.le_refl _ | (simp; done) | (simp; omega)) _ | assumption))⟩
  | true =>
    obtain ⟨p1, p2, p3, p4⟩ := plcB_spec hp
    obtain ⟨l, rfl⟩ := Int.eq_ofNat_of_zero_le p1
    obtain ⟨c, rfl⟩ := Int.eq_ofNat_of_zero_le p3
    have hl : l < L.length := by omega
    obtain ⟨b, off, s, rfl, hb, hcell, hs, HS⟩ := line_facts' hL hl
    rw [Int.toNat_natCast, HS.out] at p4
    have HP := Lib.hid hp
    have hy := byteB_yes hp HS.out
    clear hp
    by_cases h1 : c < s.size
    · have HB := Lib.hid (hy.trans (show _ = true by simp; omega))
      clear hy
      have h1I : (c : Int) < (s.size : Int) := by omega
      go_enter Try.func139, Try.ntmps139
      go_wp2
      (refine wp_region_ovr (by kernel_rfl) (by kernel_rfl) ?_; (repeat (go_big_quiet_step ((go_at_call 109; exact quiet_ovr (place_at _ _ L _ _ _ (by (repeat (first | assumption | refine LinesAt.ovr ?_ _ | refine LinesAt.alloc ?_ _ | refine LinesAt.drewN ?_ _ | refine LinesAt.drew ?_))) HP))))); refine wpQuiet_nil ?_; rintro _ ⟨zq, rfl⟩)
      go_wp2
      go_ret
      exact ⟨ret_bool HB.out.symm, by (repeat (first | exact Below.refl _ _ | refine Below.alloc ?_ (by first | exact Nat.le_refl _ | (simp; done) | (simp; omega)) _ | refine below_ovr_of ?_ | refine drew_below ?_ _ | refine Below.drew ?_ | refine Below.setCell ?_ (by first | exact Nat.le_refl _ | (simp; done) | (simp; omega)) _ | assumption))⟩
    · have h1d : decide (c < s.size) = false := decide_eq_false h1
      by_cases h2 : s.size = 0
      · obtain rfl : c = 0 := by omega
        have HB := Lib.hid (hy.trans (by rw [decide_eq_true h2, Bool.or_true]))
        have h1e : decide (0 < s.size) = false := decide_eq_false h1
        clear hy h2
        go_enter Try.func139, Try.ntmps139
        go_wp2
        (refine wp_region_ovr (by kernel_rfl) (by kernel_rfl) ?_; (repeat (go_big_quiet_step ((go_at_call 109; exact quiet_ovr (place_at _ _ L _ _ _ (by (repeat (first | assumption | refine LinesAt.ovr ?_ _ | refine LinesAt.alloc ?_ _ | refine LinesAt.drewN ?_ _ | refine LinesAt.drew ?_))) HP))))); refine wpQuiet_nil ?_; rintro _ ⟨zq, rfl⟩)
        go_wp2
        go_ret
        exact ⟨ret_bool HB.out.symm, by (repeat (first | exact Below.refl _ _ | refine Below.alloc ?_ (by first | exact Nat.le_refl _ | (simp; done) | (simp; omega)) _ | refine below_ovr_of ?_ | refine drew_below ?_ _ | refine Below.drew ?_ | refine Below.setCell ?_ (by first | exact Nat.le_refl _ | (simp; done) | (simp; omega)) _ | assumption))⟩
      · have HB := Lib.hid (hy.trans (by rw [decide_eq_false (show ¬ (c : Int) < (s.size : Int) by omega), decide_eq_false h2]))
        have h2d : ((c : Int) == 0) = false := beq_eq_false_iff_ne.2 (by omega)
        clear hy
        go_enter Try.func139, Try.ntmps139
        go_wp2
        (refine wp_region_ovr (by kernel_rfl) (by kernel_rfl) ?_; (repeat (go_big_quiet_step ((go_at_call 109; exact quiet_ovr (place_at _ _ L _ _ _ (by (repeat (first | assumption | refine LinesAt.ovr ?_ _ | refine LinesAt.alloc ?_ _ | refine LinesAt.drewN ?_ _ | refine LinesAt.drew ?_))) HP))))); refine wpQuiet_nil ?_; rintro _ ⟨zq, rfl⟩)
        go_wp2
        go_ret
        exact ⟨ret_bool HB.out.symm, by (repeat (first | exact Below.refl _ _ | refine Below.alloc ?_ (by first | exact Nat.le_refl _ | (simp; done) | (simp; omega)) _ | refine below_ovr_of ?_ | refine drew_below ?_ _ | refine Below.drew ?_ | refine Below.setCell ?_ (by first | exact Nat.le_refl _ | (simp; done) | (simp; omega)) _ | assumption))⟩

theorem str_nil {s : ByteArray} (h : s.size = 0) : s = ⟨#[]⟩ := by
  apply toList_inj
  rw [Go.ByteArray.toList_eq, Go.ByteArray.toList_eq]
  exact List.eq_nil_of_length_eq_zero (by rw [list_len]; exact h)
theorem str_empty {s : ByteArray} (h : ¬ s.size = 0) : s.toList.isEmpty = false := by
  rw [Go.ByteArray.toList_eq]
  cases hh : s.data.toList with
  | nil => exact absurd (by rw [← list_len, hh]; rfl) h
  | cons x l => rfl
set_option maxHeartbeats 1000000 in
theorem on_any (a : Option Addr) (cap : Nat) (L : List ByteArray) (pl pc n : Int) (w : World) (hL : LinesAt w a L) :
    Calls Try.prog 100 #[.slice a L.length cap, .agg #[.int .i64 pl, .int .i64 pc], .int .i64 n] w fun e w' => e = .returned (.bool (byteB L pl pc && decide (1 ≤ n))) ∧ Below w.heap.size w w' := by
  have hn := hL.2.1
  cases hp : plcB L pl pc with
  | false =>
    have HB := Lib.hid (byteB_no hp)
    have HP := Lib.hid hp
    clear hp
    go_enter Try.func100, Try.ntmps100
    go_wp2
    (refine wp_region_ovr (by kernel_rfl) (by kernel_rfl) ?_; (repeat (go_big_quiet_step ((go_at_call 52; exact quiet_ovr (rplace_at _ _ L _ _ _ (by (repeat (first | assumption | refine LinesAt.ovr ?_ _ | refine LinesAt.alloc ?_ _ | refine LinesAt.drewN ?_ _ | refine LinesAt.drew ?_))) HP))))); refine wpQuiet_nil ?_; rintro _ ⟨zq, rfl⟩)
    go_wp2
    go_ret
    exact ⟨ret_bool (by rw [HB.out]; rfl), by (repeat (first | exact Below.refl _ _ | refine Below.alloc ?_ (by first | exact Nat.le_refl _ | (simp; done) | (simp; omega)) _ | refine below_ovr_of ?_ | refine drew_below ?_ _ | refine Below.drew ?_ | refine Below.setCell ?_ (by first | exact Nat.le_refl _ | (simp; done) | (simp; omega)) _ | assumption))⟩
  | true =>
    obtain ⟨p1, p2, p3, p4⟩ := plcB_spec hp
    obtain ⟨l, rfl⟩ := Int.eq_ofNat_of_zero_le p1
    obtain ⟨c, rfl⟩ := Int.eq_ofNat_of_zero_le p3
    have hl : l < L.length := by omega
    obtain ⟨b, off, s, rfl, hb, hcell, hs, HS⟩ := line_facts' hL hl
    rw [Int.toNat_natCast, HS.out] at p4
    have HP := Lib.hid hp
    have hy := byteB_yes hp HS.out
    clear hp
    by_cases hn1 : 1 ≤ n
    · have HN := Lib.hid (decide_eq_true hn1)
      by_cases h1 : c < s.size
      · have HB := Lib.hid (hy.trans (show _ = true by simp; omega))
        clear hy
        have h1I : (c : Int) < (s.size : Int) := by omega
        go_enter Try.func100, Try.ntmps100
        go_wp2
        (refine wp_region_ovr (by kernel_rfl) (by kernel_rfl) ?_; (repeat (go_big_quiet_step ((go_at_call 52; exact quiet_ovr (rplace_at _ _ L _ _ _ (by (repeat (first | assumption | refine LinesAt.ovr ?_ _ | refine LinesAt.alloc ?_ _ | refine LinesAt.drewN ?_ _ | refine LinesAt.drew ?_))) HP))))); refine wpQuiet_nil ?_; rintro _ ⟨zq, rfl⟩)
        go_wp2
        go_ret
        exact ⟨ret_bool (by rw [HB.out, HN.out]; rfl), by (repeat (first | exact Below.refl _ _ | refine Below.alloc ?_ (by first | exact Nat.le_refl _ | (simp; done) | (simp; omega)) _ | refine below_ovr_of ?_ | refine drew_below ?_ _ | refine Below.drew ?_ | refine Below.setCell ?_ (by first | exact Nat.le_refl _ | (simp; done) | (simp; omega)) _ | assumption))⟩
      · have h1d : decide (c < s.size) = false := decide_eq_false h1
        by_cases h2 : s.size = 0
        · have HB := Lib.hid (hy.trans (by rw [decide_eq_true h2, Bool.or_true]))
          obtain rfl := str_nil h2
          clear hy h2 h1 h1d
          obtain rfl : c = 0 := by have p5 : (c : Int) ≤ ((0 : Nat) : Int) := p4; omega
          go_enter Try.func100, Try.ntmps100
          go_wp2
          (refine wp_region_ovr (by kernel_rfl) (by kernel_rfl) ?_; (repeat (go_big_quiet_step ((go_at_call 52; exact quiet_ovr (rplace_at _ _ L _ _ _ (by (repeat (first | assumption | refine LinesAt.ovr ?_ _ | refine LinesAt.alloc ?_ _ | refine LinesAt.drewN ?_ _ | refine LinesAt.drew ?_))) HP))))); refine wpQuiet_nil ?_; rintro _ ⟨zq, rfl⟩)
          go_wp2
          go_ret
          exact ⟨ret_bool (by rw [HB.out, HN.out]; rfl), by (repeat (first | exact Below.refl _ _ | refine Below.alloc ?_ (by first | exact Nat.le_refl _ | (simp; done) | (simp; omega)) _ | refine below_ovr_of ?_ | refine drew_below ?_ _ | refine Below.drew ?_ | refine Below.setCell ?_ (by first | exact Nat.le_refl _ | (simp; done) | (simp; omega)) _ | assumption))⟩
        · have HB := Lib.hid (hy.trans (by rw [decide_eq_false (show ¬ (c : Int) < (s.size : Int) by omega), decide_eq_false h2]))
          have h2e := str_empty h2
          clear hy
          go_enter Try.func100, Try.ntmps100
          go_wp2
          (refine wp_region_ovr (by kernel_rfl) (by kernel_rfl) ?_; (repeat (go_big_quiet_step ((go_at_call 52; exact quiet_ovr (rplace_at _ _ L _ _ _ (by (repeat (first | assumption | refine LinesAt.ovr ?_ _ | refine LinesAt.alloc ?_ _ | refine LinesAt.drewN ?_ _ | refine LinesAt.drew ?_))) HP))))); refine wpQuiet_nil ?_; rintro _ ⟨zq, rfl⟩)
          go_wp2
          go_ret
          exact ⟨ret_bool (by rw [HB.out]; rfl), by (repeat (first | exact Below.refl _ _ | refine Below.alloc ?_ (by first | exact Nat.le_refl _ | (simp; done) | (simp; omega)) _ | refine below_ovr_of ?_ | refine drew_below ?_ _ | refine Below.drew ?_ | refine Below.setCell ?_ (by first | exact Nat.le_refl _ | (simp; done) | (simp; omega)) _ | assumption))⟩
    · have HN := Lib.hid (decide_eq_false hn1)
      have hn1' : decide (1 ≤ n) = false := decide_eq_false hn1
      clear hy
      go_enter Try.func100, Try.ntmps100
      go_wp2
      (refine wp_region_ovr (by kernel_rfl) (by kernel_rfl) ?_; (repeat (go_big_quiet_step ((go_at_call 52; exact quiet_ovr (rplace_at _ _ L _ _ _ (by (repeat (first | assumption | refine LinesAt.ovr ?_ _ | refine LinesAt.alloc ?_ _ | refine LinesAt.drewN ?_ _ | refine LinesAt.drew ?_))) HP))))); refine wpQuiet_nil ?_; rintro _ ⟨zq, rfl⟩)
      go_wp2
      go_ret
      exact ⟨ret_bool (by rw [HN.out]; simp), by (repeat (first | exact Below.refl _ _ | refine Below.alloc ?_ (by first | exact Nat.le_refl _ | (simp; done) | (simp; omega)) _ | refine below_ovr_of ?_ | refine drew_below ?_ _ | refine Below.drew ?_ | refine Below.setCell ?_ (by first | exact Nat.le_refl _ | (simp; done) | (simp; omega)) _ | assumption))⟩

theorem on_at (a : Option Addr) (cap : Nat) (L : List ByteArray) (pl pc n : Int) (w : World) (hL : LinesAt w a L) {q : Bool} (h : Hid ((byteB L pl pc && decide (1 ≤ n)) = q)) :
    Calls Try.prog 100 #[.slice a L.length cap, .agg #[.int .i64 pl, .int .i64 pc], .int .i64 n] w fun e w' => e = .returned (.bool q) ∧ Below w.heap.size w w' := by
  have := on_any a cap L pl pc n w hL
  rw [h.out] at this
  exact this
set_option maxHeartbeats 400000 in
theorem char_any (a b c d : Int) (w : World) :
    Calls Try.prog 116 #[.agg #[.int .i64 a, .int .i64 b], .agg #[.int .i64 c, .int .i64 d]] w fun e w' => e = .returned (rngV ((0, a, b, c, d), true)) ∧ Below w.heap.size w w' := by
  go_enter Try.func116, Try.ntmps116
  go_wp2
  refine bodyPost_ret (v := rngV ((0, a, b, c, d), true)) (by simp [results, Try.results116, go_sem]) rfl ⟨rfl, by (repeat (first | with_reducible exact Below.refl _ _ | (with_reducible refine Below.setCell ?_ ?_ _; rotate_left; · (first | exact Nat.le_refl _ | assumption | omega | (simp; done) | (simp; omega))) | (with_reducible refine Below.alloc ?_ ?_ _; rotate_left; · (first | exact Nat.le_refl _ | assumption | omega | (simp; done) | (simp; omega))) | with_reducible refine below_ovr_of ?_ | with_reducible refine drew_below ?_ _ | with_reducible refine Below.drew ?_ | with_reducible assumption))⟩
end Go.Proofs.Ytlbbgocggifjaaa
