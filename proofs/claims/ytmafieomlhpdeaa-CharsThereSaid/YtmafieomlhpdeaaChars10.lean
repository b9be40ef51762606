/- The contract of chars.Seek. Conditions: none beyond what it says. -/
import Derived.Test.YtmafieomlhpdeaaChars3
namespace Go.Proofs.Ytmafieomlhpdeaa
open Go.RowKit

theorem nth_fwd_at (s : ByteArray) (col : Nat) (c n : Int) (w : World) (hs : s.size ≤ 140737488351232) (hc : col ≤ s.size) (h1 : 1 ≤ n) (hn2 : n ≤ 9223372036854775807) {A : Int} (h : Hid (fwdN s c n (col + 1) = A)) :
    Calls Try.prog 62 #[.string s, .int .i64 col, .bool false, .int .u8 c, .int .i64 n] w fun e w' => e = .returned (.int .i64 A) ∧ w = w' := by
  have := nth_fwd s col c n w hs hc h1 hn2
  rw [h.out] at this
  exact this
theorem nth_bwd_at (s : ByteArray) (col : Nat) (c n : Int) (w : World) (hs : s.size ≤ 140737488351232) (hc : col ≤ s.size) (h1 : 1 ≤ n) (hn2 : n ≤ 9223372036854775807) {A : Int} (h : Hid (bwdN s c n col = A)) :
    Calls Try.prog 62 #[.string s, .int .i64 col, .bool true, .int .u8 c, .int .i64 n] w fun e w' => e = .returned (.int .i64 A) ∧ w = w' := by
  have := nth_bwd s col c n w hs hc h1 hn2
  rw [h.out] at this
  exact this
theorem seekP_no {L : List ByteArray} {pl pc key c n : Int} (h : ¬ (plcB L pl pc = true ∧ 1 ≤ n ∧ (key = 102 ∨ key = 116 ∨ key = 70 ∨ key = 84))) : seekP L pl pc key c n = noMov := by rw [seekP, if_neg h]
theorem seekP_fwd {L : List ByteArray} {pl key c n A : Int} {pc : Nat} {s : ByteArray} (h : plcB L pl pc = true) (h1 : 1 ≤ n) (hk : key = 102 ∨ key = 116) (hs : L.getD pl.toNat .empty = s) (hA : fwdN s c n (pc + 1) = A) : seekP L pl pc key c n = seekM pl key A := by
  rw [seekP, if_pos ⟨h, h1, by rcases hk with h | h <;> simp [h]⟩, seekA, if_pos hk, ln, hs, Int.toNat_natCast, hA]
theorem seekP_bwd {L : List ByteArray} {pl key c n A : Int} {pc : Nat} {s : ByteArray} (h : plcB L pl pc = true) (h1 : 1 ≤ n) (hk : key = 70 ∨ key = 84) (hs : L.getD pl.toNat .empty = s) (hA : bwdN s c n pc = A) : seekP L pl pc key c n = seekM pl key A := by
  rw [seekP, if_pos ⟨h, h1, by rcases hk with h | h <;> simp [h]⟩, seekA, if_neg (by rcases hk with h | h <;> simp [h]), ln, hs, Int.toNat_natCast, hA]
theorem seekM_no (pl key : Int) : seekM pl key (-1) = noMov := by simp [seekM]
theorem seekM_102 {pl A : Int} (h : 0 ≤ A) : seekM pl 102 A = ((pl, A, 1, false, -1), true) := by simp [seekM]; omega
theorem seekM_116 {pl A : Int} (h : 0 ≤ A) : seekM pl 116 A = ((pl, A - 1, 1, false, -1), true) := by simp [seekM]; omega
theorem seekM_70 {pl A : Int} (h : 0 ≤ A) : seekM pl 70 A = ((pl, A, 0, false, -1), true) := by simp [seekM]; omega
theorem seekM_84 {pl A : Int} (h : 0 ≤ A) : seekM pl 84 A = ((pl, A + 1, 0, false, -1), true) := by simp [seekM]; omega

set_option maxHeartbeats 2000000 in
theorem cseek_any (a : Option Addr) (cap : Nat) (L : List ByteArray) (pl pc key c n : Int) (w : World) (hL : LinesAt w a L) (hn2 : n ≤ 9223372036854775807) :
    Calls Try.prog 24 #[.slice a L.length cap, .agg #[.int .i64 pl, .int .i64 pc], .int .u8 key, .int .u8 c, .int .i64 n] w fun e w' =>
      e = .returned (movV (seekP L pl pc key c n)) ∧ Below w.heap.size w w' := by
  have hn := hL.2.1
  rcases may_ways L pl pc n with ⟨HQ, h⟩ | ⟨HQ, hp, h1⟩
  · have HP := Lib.hid (seekP_no (key := key) (c := c) (fun e => h ⟨e.1, e.2.1⟩))
    clear h
    go_enter Try.func24, Try.ntmps24
    go_wp2_with (go_at_call 61; refine (cfails_any _ _ L _ _ _ _ (by (repeat (first | assumption | refine LinesAt.ovr ?_ _ | refine LinesAt.alloc ?_ _ | refine LinesAt.drewN ?_ _ | refine LinesAt.drew ?_)))).mono ?_; rw [HQ.out]; rintro e w1 ⟨rfl, hbl⟩; obtain ⟨x, rfl⟩ := ovr_of_below hbl; clear hbl)
    refine bodyPost_ret (v := movV noMov) (by simp [results, Try.results24, go_sem, noMov]) rfl ⟨by rw [HP.out], by (repeat (first | exact Below.refl _ _ | refine Below.alloc ?_ (by first | exact Nat.le_refl _ | (simp; done) | (simp; omega)) _ | refine below_ovr_of ?_ | refine drew_below ?_ _ | refine Below.drew ?_ | refine Below.setCell ?_ (by first | exact Nat.le_refl _ | (simp; done) | (simp; omega)) _ | assumption))⟩
  · obtain ⟨p1, p2, p3, p4⟩ := plcB_spec hp
    obtain ⟨b, off, s, rfl, hb, hcell, hs, HS⟩ := line_facts hL p1 p2
    rw [HS.out] at p4
    obtain ⟨pc, rfl⟩ := Int.eq_ofNat_of_zero_le p3
    have p5 : pc ≤ s.size := by omega
    by_cases k102 : key = 102
    · subst k102
      obtain ⟨A, hA⟩ : ∃ A, fwdN s c n (pc + 1) = A := ⟨_, rfl⟩
      have hsp := fwdN_spec (s := s) (c := c) (s.size - (pc + 1)) (pc + 1) n rfl
      rw [hA] at hsp
      have hy := seekP_fwd (key := 102) (c := c) hp h1 (by simp) HS.out hA
      have HA := Lib.hid hA
      clear hA
      rcases hsp with rfl | ⟨a1, a2⟩
      · rw [seekM_no] at hy
        have HP := Lib.hid hy
        clear hy
        go_enter Try.func24, Try.ntmps24
        go_wp2_with (go_at_call 61; refine (cfails_any _ _ L _ _ _ _ (by (repeat (first | assumption | refine LinesAt.ovr ?_ _ | refine LinesAt.alloc ?_ _ | refine LinesAt.drewN ?_ _ | refine LinesAt.drew ?_)))).mono ?_; rw [HQ.out]; rintro e w1 ⟨rfl, hbl⟩; obtain ⟨x, rfl⟩ := ovr_of_below hbl; clear hbl)
        (refine wp_region_ovr (by kernel_rfl) (by kernel_rfl) ?_; (repeat (go_big_quiet_step ((go_at_call 62; exact quiet_same (nth_fwd_at _ _ _ _ _ (by omega) (by omega) (by omega) (by omega) HA))))); refine wpQuiet_nil ?_; rintro _ ⟨zq, rfl⟩)
        go_wp2
        refine bodyPost_ret (v := movV noMov) (by simp [results, Try.results24, go_sem, noMov]) rfl ⟨by rw [HP.out], by (repeat (first | exact Below.refl _ _ | refine Below.alloc ?_ (by first | exact Nat.le_refl _ | (simp; done) | (simp; omega)) _ | refine below_ovr_of ?_ | refine drew_below ?_ _ | refine Below.drew ?_ | refine Below.setCell ?_ (by first | exact Nat.le_refl _ | (simp; done) | (simp; omega)) _ | assumption))⟩
      · have a0 : 0 ≤ A := by omega
        rw [seekM_102 a0] at hy
        have HP := Lib.hid hy
        clear hy
        go_enter Try.func24, Try.ntmps24
        go_wp2_with (go_at_call 61; refine (cfails_any _ _ L _ _ _ _ (by (repeat (first | assumption | refine LinesAt.ovr ?_ _ | refine LinesAt.alloc ?_ _ | refine LinesAt.drewN ?_ _ | refine LinesAt.drew ?_)))).mono ?_; rw [HQ.out]; rintro e w1 ⟨rfl, hbl⟩; obtain ⟨x, rfl⟩ := ovr_of_below hbl; clear hbl)
        (refine wp_region_ovr (by kernel_rfl) (by kernel_rfl) ?_; (repeat (go_big_quiet_step ((go_at_call 62; exact quiet_same (nth_fwd_at _ _ _ _ _ (by omega) (by omega) (by omega) (by omega) HA))))); refine wpQuiet_nil ?_; rintro _ ⟨zq, rfl⟩)
        go_wp2_with (go_at_call 63; refine (cto_any _ _ _ _).mono ?_; rintro e w1 ⟨rfl, hbl⟩; obtain ⟨x, rfl⟩ := ovr_of_below hbl; clear hbl)
        simp [bodyPost, results, Try.results24, go_sem]
        rw [HP.out]
        refine ⟨by simp; try omega, by (repeat (first | exact Below.refl _ _ | refine Below.alloc ?_ (by first | exact Nat.le_refl _ | (simp; done) | (simp; omega)) _ | refine below_ovr_of ?_ | refine drew_below ?_ _ | refine Below.drew ?_ | refine Below.setCell ?_ (by first | exact Nat.le_refl _ | (simp; done) | (simp; omega)) _ | assumption))⟩
    by_cases k116 : key = 116
    · subst k116
      obtain ⟨A, hA⟩ : ∃ A, fwdN s c n (pc + 1) = A := ⟨_, rfl⟩
      have hsp := fwdN_spec (s := s) (c := c) (s.size - (pc + 1)) (pc + 1) n rfl
      rw [hA] at hsp
      have hy := seekP_fwd (key := 116) (c := c) hp h1 (by simp) HS.out hA
      have HA := Lib.hid hA
      clear hA
      rcases hsp with rfl | ⟨a1, a2⟩
      · rw [seekM_no] at hy
        have HP := Lib.hid hy
        clear hy
        go_enter Try.func24, Try.ntmps24
        go_wp2_with (go_at_call 61; refine (cfails_any _ _ L _ _ _ _ (by (repeat (first | assumption | refine LinesAt.ovr ?_ _ | refine LinesAt.alloc ?_ _ | refine LinesAt.drewN ?_ _ | refine LinesAt.drew ?_)))).mono ?_; rw [HQ.out]; rintro e w1 ⟨rfl, hbl⟩; obtain ⟨x, rfl⟩ := ovr_of_below hbl; clear hbl)
        (refine wp_region_ovr (by kernel_rfl) (by kernel_rfl) ?_; (repeat (go_big_quiet_step ((go_at_call 62; exact quiet_same (nth_fwd_at _ _ _ _ _ (by omega) (by omega) (by omega) (by omega) HA))))); refine wpQuiet_nil ?_; rintro _ ⟨zq, rfl⟩)
        go_wp2
        refine bodyPost_ret (v := movV noMov) (by simp [results, Try.results24, go_sem, noMov]) rfl ⟨by rw [HP.out], by (repeat (first | exact Below.refl _ _ | refine Below.alloc ?_ (by first | exact Nat.le_refl _ | (simp; done) | (simp; omega)) _ | refine below_ovr_of ?_ | refine drew_below ?_ _ | refine Below.drew ?_ | refine Below.setCell ?_ (by first | exact Nat.le_refl _ | (simp; done) | (simp; omega)) _ | assumption))⟩
      · have a0 : 0 ≤ A := by omega
        rw [seekM_116 a0] at hy
        have HP := Lib.hid hy
        clear hy
        go_enter Try.func24, Try.ntmps24
        go_wp2_with (go_at_call 61; refine (cfails_any _ _ L _ _ _ _ (by (repeat (first | assumption | refine LinesAt.ovr ?_ _ | refine LinesAt.alloc ?_ _ | refine LinesAt.drewN ?_ _ | refine LinesAt.drew ?_)))).mono ?_; rw [HQ.out]; rintro e w1 ⟨rfl, hbl⟩; obtain ⟨x, rfl⟩ := ovr_of_below hbl; clear hbl)
        (refine wp_region_ovr (by kernel_rfl) (by kernel_rfl) ?_; (repeat (go_big_quiet_step ((go_at_call 62; exact quiet_same (nth_fwd_at _ _ _ _ _ (by omega) (by omega) (by omega) (by omega) HA))))); refine wpQuiet_nil ?_; rintro _ ⟨zq, rfl⟩)
        go_wp2_with (go_at_call 63; refine (cto_any _ _ _ _).mono ?_; rintro e w1 ⟨rfl, hbl⟩; obtain ⟨x, rfl⟩ := ovr_of_below hbl; clear hbl)
        simp [bodyPost, results, Try.results24, go_sem]
        rw [HP.out]
        refine ⟨by simp; try omega, by (repeat (first | exact Below.refl _ _ | refine Below.alloc ?_ (by first | exact Nat.le_refl _ | (simp; done) | (simp; omega)) _ | refine below_ovr_of ?_ | refine drew_below ?_ _ | refine Below.drew ?_ | refine Below.setCell ?_ (by first | exact Nat.le_refl _ | (simp; done) | (simp; omega)) _ | assumption))⟩
    by_cases k70 : key = 70
    · subst k70
      obtain ⟨A, hA⟩ : ∃ A, bwdN s c n pc = A := ⟨_, rfl⟩
      have hsp := bwdN_spec (s := s) (c := c) pc n
      rw [hA] at hsp
      have hy := seekP_bwd (key := 70) (c := c) hp h1 (by simp) HS.out hA
      have HA := Lib.hid hA
      clear hA
      rcases hsp with rfl | ⟨a1, a2⟩
      · rw [seekM_no] at hy
        have HP := Lib.hid hy
        clear hy
        go_enter Try.func24, Try.ntmps24
        go_wp2_with (go_at_call 61; refine (cfails_any _ _ L _ _ _ _ (by (repeat (first | assumption | refine LinesAt.ovr ?_ _ | refine LinesAt.alloc ?_ _ | refine LinesAt.drewN ?_ _ | refine LinesAt.drew ?_)))).mono ?_; rw [HQ.out]; rintro e w1 ⟨rfl, hbl⟩; obtain ⟨x, rfl⟩ := ovr_of_below hbl; clear hbl)
        (refine wp_region_ovr (by kernel_rfl) (by kernel_rfl) ?_; (repeat (go_big_quiet_step ((go_at_call 62; exact quiet_same (nth_bwd_at _ _ _ _ _ (by omega) (by omega) (by omega) (by omega) HA))))); refine wpQuiet_nil ?_; rintro _ ⟨zq, rfl⟩)
        go_wp2
        refine bodyPost_ret (v := movV noMov) (by simp [results, Try.results24, go_sem, noMov]) rfl ⟨by rw [HP.out], by (repeat (first | exact Below.refl _ _ | refine Below.alloc ?_ (by first | exact Nat.le_refl _ | (simp; done) | (simp; omega)) _ | refine below_ovr_of ?_ | refine drew_below ?_ _ | refine Below.drew ?_ | refine Below.setCell ?_ (by first | exact Nat.le_refl _ | (simp; done) | (simp; omega)) _ | assumption))⟩
      · have a0 : 0 ≤ A := by omega
        rw [seekM_70 a0] at hy
        have HP := Lib.hid hy
        clear hy
        go_enter Try.func24, Try.ntmps24
        go_wp2_with (go_at_call 61; refine (cfails_any _ _ L _ _ _ _ (by (repeat (first | assumption | refine LinesAt.ovr ?_ _ | refine LinesAt.alloc ?_ _ | refine LinesAt.drewN ?_ _ | refine LinesAt.drew ?_)))).mono ?_; rw [HQ.out]; rintro e w1 ⟨rfl, hbl⟩; obtain ⟨x, rfl⟩ := ovr_of_below hbl; clear hbl)
        (refine wp_region_ovr (by kernel_rfl) (by kernel_rfl) ?_; (repeat (go_big_quiet_step ((go_at_call 62; exact quiet_same (nth_bwd_at _ _ _ _ _ (by omega) (by omega) (by omega) (by omega) HA))))); refine wpQuiet_nil ?_; rintro _ ⟨zq, rfl⟩)
        go_wp2_with (go_at_call 63; refine (cto_any _ _ _ _).mono ?_; rintro e w1 ⟨rfl, hbl⟩; obtain ⟨x, rfl⟩ := ovr_of_below hbl; clear hbl)
        simp [bodyPost, results, Try.results24, go_sem]
        rw [HP.out]
        refine ⟨by simp; try omega, by (repeat (first | exact Below.refl _ _ | refine Below.alloc ?_ (by first | exact Nat.le_refl _ | (simp; done) | (simp; omega)) _ | refine below_ovr_of ?_ | refine drew_below ?_ _ | refine Below.drew ?_ | refine Below.setCell ?_ (by first | exact Nat.le_refl _ | (simp; done) | (simp; omega)) _ | assumption))⟩
    by_cases k84 : key = 84
    · subst k84
      obtain ⟨A, hA⟩ : ∃ A, bwdN s c n pc = A := ⟨_, rfl⟩
      have hsp := bwdN_spec (s := s) (c := c) pc n
      rw [hA] at hsp
      have hy := seekP_bwd (key := 84) (c := c) hp h1 (by simp) HS.out hA
      have HA := Lib.hid hA
      clear hA
      rcases hsp with rfl | ⟨a1, a2⟩
      · rw [seekM_no] at hy
        have HP := Lib.hid hy
        clear hy
        go_enter Try.func24, Try.ntmps24
        go_wp2_with (go_at_call 61; refine (cfails_any _ _ L _ _ _ _ (by (repeat (first | assumption | refine LinesAt.ovr ?_ _ | refine LinesAt.alloc ?_ _ | refine LinesAt.drewN ?_ _ | refine LinesAt.drew ?_)))).mono ?_; rw [HQ.out]; rintro e w1 ⟨rfl, hbl⟩; obtain ⟨x, rfl⟩ := ovr_of_below hbl; clear hbl)
        (refine wp_region_ovr (by kernel_rfl) (by kernel_rfl) ?_; (repeat (go_big_quiet_step ((go_at_call 62; exact quiet_same (nth_bwd_at _ _ _ _ _ (by omega) (by omega) (by omega) (by omega) HA))))); refine wpQuiet_nil ?_; rintro _ ⟨zq, rfl⟩)
        go_wp2
        refine bodyPost_ret (v := movV noMov) (by simp [results, Try.results24, go_sem, noMov]) rfl ⟨by rw [HP.out], by (repeat (first | exact Below.refl _ _ | refine Below.alloc ?_ (by first | exact Nat.le_refl _ | (simp; done) | (simp; omega)) _ | refine below_ovr_of ?_ | refine drew_below ?_ _ | refine Below.drew ?_ | refine Below.setCell ?_ (by first | exact Nat.le_refl _ | (simp; done) | (simp; omega)) _ | assumption))⟩
      · have a0 : 0 ≤ A := by omega
        rw [seekM_84 a0] at hy
        have HP := Lib.hid hy
        clear hy
        go_enter Try.func24, Try.ntmps24
        go_wp2_with (go_at_call 61; refine (cfails_any _ _ L _ _ _ _ (by (repeat (first | assumption | refine LinesAt.ovr ?_ _ | refine LinesAt.alloc ?_ _ | refine LinesAt.drewN ?_ _ | refine LinesAt.drew ?_)))).mono ?_; rw [HQ.out]; rintro e w1 ⟨rfl, hbl⟩; obtain ⟨x, rfl⟩ := ovr_of_below hbl; clear hbl)
        (refine wp_region_ovr (by kernel_rfl) (by kernel_rfl) ?_; (repeat (go_big_quiet_step ((go_at_call 62; exact quiet_same (nth_bwd_at _ _ _ _ _ (by omega) (by omega) (by omega) (by omega) HA))))); refine wpQuiet_nil ?_; rintro _ ⟨zq, rfl⟩)
        go_wp2_with (go_at_call 63; refine (cto_any _ _ _ _).mono ?_; rintro e w1 ⟨rfl, hbl⟩; obtain ⟨x, rfl⟩ := ovr_of_below hbl; clear hbl)
        simp [bodyPost, results, Try.results24, go_sem]
        rw [HP.out]
        refine ⟨by simp; try omega, by (repeat (first | exact Below.refl _ _ | refine Below.alloc ?_ (by first | exact Nat.le_refl _ | (simp; done) | (simp; omega)) _ | refine below_ovr_of ?_ | refine drew_below ?_ _ | refine Below.drew ?_ | refine Below.setCell ?_ (by first | exact Nat.le_refl _ | (simp; done) | (simp; omega)) _ | assumption))⟩
    have HP := Lib.hid (seekP_no (L := L) (pl := pl) (pc := pc) (key := key) (c := c) (n := n) (by rintro ⟨_, _, h⟩; exact h.elim k102 (fun h => h.elim k116 (fun h => h.elim k70 k84))))
    have b1 : (key == 102) = false := beq_eq_false_iff_ne.2 k102
    have b2 : (key == 116) = false := beq_eq_false_iff_ne.2 k116
    have b3 : (key == 70) = false := beq_eq_false_iff_ne.2 k70
    have b4 : (key == 84) = false := beq_eq_false_iff_ne.2 k84
    clear k102 k116 k70 k84
    go_enter Try.func24, Try.ntmps24
    go_wp2_with (go_at_call 61; refine (cfails_any _ _ L _ _ _ _ (by (repeat (first | assumption | refine LinesAt.ovr ?_ _ | refine LinesAt.alloc ?_ _ | refine LinesAt.drewN ?_ _ | refine LinesAt.drew ?_)))).mono ?_; rw [HQ.out]; rintro e w1 ⟨rfl, hbl⟩; obtain ⟨x, rfl⟩ := ovr_of_below hbl; clear hbl)
    refine bodyPost_ret (v := movV noMov) (by simp [results, Try.results24, go_sem, noMov]) rfl ⟨by rw [HP.out], by (repeat (first | exact Below.refl _ _ | refine Below.alloc ?_ (by first | exact Nat.le_refl _ | (simp; done) | (simp; omega)) _ | refine below_ovr_of ?_ | refine drew_below ?_ _ | refine Below.drew ?_ | refine Below.setCell ?_ (by first | exact Nat.le_refl _ | (simp; done) | (simp; omega)) _ | assumption))⟩
end Go.Proofs.Ytmafieomlhpdeaa
