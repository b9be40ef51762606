/- The contracts of what stands in brackets. Conditions: none beyond what each says. -/
import Derived.Test.YtlbbgocggifjaaaByte
import Derived.Test.YtlbbgocggifjaaaObjP
import Derived.Test.YtlbbgocggifjaaaREncl3
namespace Go.Proofs.Ytlbbgocggifjaaa
open Go.RowKit

set_option maxHeartbeats 1000000 in
theorem both_any (a : Option Addr) (cap : Nat) (L : List ByteArray) (pl pc o n : Int) (w : World) (hL : LinesAt w a L) (htot : total L ≤ 1000000) (hn2 : n ≤ 9223372036854775807) :
    Calls Try.prog 115 #[.slice a L.length cap, .agg #[.int .i64 pl, .int .i64 pc], .int .u8 o, .int .i64 n] w fun e w' => e = .returned (encV (if byteB L pl pc = true then enclP L pl pc o n else noEnc)) ∧ Below w.heap.size w w' := by
  cases hb : byteB L pl pc with
  | false =>
    have HB := Lib.hid hb
    clear hb
    rw [if_neg (by simp)]
    go_enter Try.func115, Try.ntmps115
    go_wp2_with (go_at_call 139; refine (byte_any _ _ L _ _ _ (by (repeat (first | assumption | refine LinesAt.ovr ?_ _ | refine LinesAt.alloc ?_ _ | refine LinesAt.drewN ?_ _ | refine LinesAt.drew ?_)))).mono ?_; rw [HB.out]; rintro e w1 ⟨rfl, hbl⟩; obtain ⟨x, rfl⟩ := ovr_of_below hbl; clear hbl)
    refine bodyPost_ret (v := encV noEnc) (by simp [results, Try.results115, go_sem, noEnc]) rfl ⟨rfl, by (repeat (first | with_reducible exact Below.refl _ _ | (with_reducible refine Below.setCell ?_ ?_ _; rotate_left; · (first | exact Nat.le_refl _ | assumption | omega | (simp; done) | (simp; omega))) | (with_reducible refine Below.alloc ?_ ?_ _; rotate_left; · (first | exact Nat.le_refl _ | assumption | omega | (simp; done) | (simp; omega))) | with_reducible refine below_ovr_of ?_ | with_reducible refine drew_below ?_ _ | with_reducible refine Below.drew ?_ | with_reducible assumption))⟩
  | true =>
    have HB := Lib.hid hb
    obtain ⟨⟨⟨⟨a1, b1⟩, ⟨c1, d1⟩⟩, ok1⟩, hr⟩ : ∃ r, enclP L pl pc o n = r := ⟨_, rfl⟩
    rw [if_pos rfl, hr]
    have HR1 := Lib.hid hr
    clear hr hb
    go_enter Try.func115, Try.ntmps115
    go_wp2_with (first | (go_at_call 139; refine (byte_any _ _ L _ _ _ (by (repeat (first | assumption | refine LinesAt.ovr ?_ _ | refine LinesAt.alloc ?_ _ | refine LinesAt.drewN ?_ _ | refine LinesAt.drew ?_)))).mono ?_; rw [HB.out]; rintro e w1 ⟨rfl, hbl⟩; obtain ⟨x, rfl⟩ := ovr_of_below hbl; clear hbl) | (go_at_call 50; refine (encl_any _ _ L _ _ _ _ _ (by (repeat (first | assumption | refine LinesAt.ovr ?_ _ | refine LinesAt.alloc ?_ _ | refine LinesAt.drewN ?_ _ | refine LinesAt.drew ?_))) (by omega) (by omega)).mono ?_; rw [HR1.out]; rintro e w1 ⟨rfl, hbl⟩; obtain ⟨x, rfl⟩ := ovr_of_below hbl; clear hbl))
    refine bodyPost_ret (v := encV (((a1, b1), (c1, d1)), ok1)) (by simp [results, Try.results115, go_sem]) rfl ⟨rfl, by (repeat (first | with_reducible exact Below.refl _ _ | (with_reducible refine Below.setCell ?_ ?_ _; rotate_left; · (first | exact Nat.le_refl _ | assumption | omega | (simp; done) | (simp; omega))) | (with_reducible refine Below.alloc ?_ ?_ _; rotate_left; · (first | exact Nat.le_refl _ | assumption | omega | (simp; done) | (simp; omega))) | with_reducible refine below_ovr_of ?_ | with_reducible refine drew_below ?_ _ | with_reducible refine Below.drew ?_ | with_reducible assumption))⟩
theorem both_at (a : Option Addr) (cap : Nat) (L : List ByteArray) (pl pc o n : Int) (w : World) (hL : LinesAt w a L) (htot : total L ≤ 1000000) (hn2 : n ≤ 9223372036854775807) {r : Enc} (h : Hid ((if byteB L pl pc = true then enclP L pl pc o n else noEnc) = r)) :
    Calls Try.prog 115 #[.slice a L.length cap, .agg #[.int .i64 pl, .int .i64 pc], .int .u8 o, .int .i64 n] w fun e w' => e = .returned (encV r) ∧ Below w.heap.size w w' := by
  have := both_any a cap L pl pc o n w hL htot hn2
  rw [h.out] at this
  exact this
end Go.Proofs.Ytlbbgocggifjaaa
