/- The contracts of Column and of the reference's Seek, whole. Conditions: none beyond what each says. -/
import Derived.Test.YtmafieomlhpdeaaChars8
import Derived.Test.YtmafieomlhpdeaaChars9
import Derived.Test.YtmafieomlhpdeaaChars11
import Derived.Test.YtmafieomlhpdeaaChars12
namespace Go.Proofs.Ytmafieomlhpdeaa
open Go.RowKit

theorem ccolumn_any (a : Option Addr) (cap : Nat) (L : List ByteArray) (pl pc n : Int) (w : World) (hL : LinesAt w a L) (hn2 : n ≤ 9223372036854775807) :
    Calls Try.prog 37 #[.slice a L.length cap, .agg #[.int .i64 pl, .int .i64 pc], .int .i64 n] w fun e w' =>
      e = .returned (movV (columnP L pl pc n)) ∧ Below w.heap.size w w' := by
  by_cases k : n ≤ 1073741824
  · exact ccolumn_small a cap L pl pc n w hL k
  · exact ccolumn_big a cap L pl pc n w hL (by omega) hn2

set_option maxHeartbeats 1000000 in
theorem rseek_any (a : Option Addr) (cap : Nat) (L : List ByteArray) (pl pc key c n : Int) (w : World) (hL : LinesAt w a L) (hn2 : n ≤ 9223372036854775807) :
    Calls Try.prog 25 #[.slice a L.length cap, .agg #[.int .i64 pl, .int .i64 pc], .int .u8 key, .int .u8 c, .int .i64 n] w fun e w' =>
      e = .returned (movV (seekP L pl pc key c n)) ∧ Below w.heap.size w w' := by
  have hn := hL.2.1
  rcases may_ways L pl pc n with ⟨HQ, h⟩ | ⟨HQ, hp, h1⟩
  · have HP := Lib.hid (seekP_no (key := key) (c := c) (fun e => h ⟨e.1, e.2.1⟩))
    clear h
    go_enter Try.func25, Try.ntmps25
    go_wp2_with (first | (go_at_call 57; refine (rmay_any _ _ L _ _ _ _ (by (repeat (first | assumption | refine LinesAt.ovr ?_ _ | refine LinesAt.alloc ?_ _ | refine LinesAt.drewN ?_ _ | refine LinesAt.drew ?_)))).mono ?_; rw [HQ.out]; rintro e w1 ⟨rfl, hbl⟩; obtain ⟨x, rfl⟩ := ovr_of_below hbl; clear hbl) | (go_at_call 58; refine (rnone_any _).mono ?_; rintro e w1 ⟨rfl, hbl⟩; obtain ⟨x, rfl⟩ := ovr_of_below hbl; clear hbl))
    refine bodyPost_ret (v := movV noMov) (by simp [results, Try.results25, go_sem, noMov]) rfl ⟨by rw [HP.out], by (repeat (first | exact Below.refl _ _ | refine Below.alloc ?_ (by first | exact Nat.le_refl _ | (simp; done) | (simp; omega)) _ | refine below_ovr_of ?_ | refine drew_below ?_ _ | refine Below.drew ?_ | refine Below.setCell ?_ (by first | exact Nat.le_refl _ | (simp; done) | (simp; omega)) _ | assumption))⟩
  · obtain ⟨p1, p2, p3, p4⟩ := plcB_spec hp
    obtain ⟨pc, rfl⟩ := Int.eq_ofNat_of_zero_le p3
    by_cases k102 : key = 102
    · subst k102
      exact rseek_102 a cap L pl c n pc w hL hn2 hp h1
    by_cases k116 : key = 116
    · subst k116
      exact rseek_116 a cap L pl c n pc w hL hn2 hp h1
    by_cases k70 : key = 70
    · subst k70
      exact rseek_70 a cap L pl c n pc w hL hn2 hp h1
    by_cases k84 : key = 84
    · subst k84
      exact rseek_84 a cap L pl c n pc w hL hn2 hp h1
    obtain ⟨b, off, s, rfl, hb, hcell, hs, HS⟩ := line_facts hL p1 p2
    clear p4
    have HP := Lib.hid (seekP_no (L := L) (pl := pl) (pc := pc) (key := key) (c := c) (n := n) (by rintro ⟨_, _, h⟩; exact h.elim k102 (fun h => h.elim k116 (fun h => h.elim k70 k84))))
    have b1 : (key == 102) = false := beq_eq_false_iff_ne.2 k102
    have b2 : (key == 116) = false := beq_eq_false_iff_ne.2 k116
    have b3 : (key == 70) = false := beq_eq_false_iff_ne.2 k70
    have b4 : (key == 84) = false := beq_eq_false_iff_ne.2 k84
    clear k102 k116 k70 k84
    go_enter Try.func25, Try.ntmps25
    go_wp2_with (first | (go_at_call 57; refine (rmay_any _ _ L _ _ _ _ (by (repeat (first | assumption | refine LinesAt.ovr ?_ _ | refine LinesAt.alloc ?_ _ | refine LinesAt.drewN ?_ _ | refine LinesAt.drew ?_)))).mono ?_; rw [HQ.out]; rintro e w1 ⟨rfl, hbl⟩; obtain ⟨x, rfl⟩ := ovr_of_below hbl; clear hbl) | (go_at_call 58; refine (rnone_any _).mono ?_; rintro e w1 ⟨rfl, hbl⟩; obtain ⟨x, rfl⟩ := ovr_of_below hbl; clear hbl))
    refine bodyPost_ret (v := movV noMov) (by simp [results, Try.results25, go_sem, noMov]) rfl ⟨by rw [HP.out], by (repeat (first | exact Below.refl _ _ | refine Below.alloc ?_ (by first | exact Nat.le_refl _ | (simp; done) | (simp; omega)) _ | refine below_ovr_of ?_ | refine drew_below ?_ _ | refine Below.drew ?_ | refine Below.setCell ?_ (by first | exact Nat.le_refl _ | (simp; done) | (simp; omega)) _ | assumption))⟩
end Go.Proofs.Ytmafieomlhpdeaa
