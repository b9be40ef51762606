/- The walk of the law CharsEdges. Conditions: none beyond what it says. -/
import Derived.Test.YtmafieomlhpdeaaCharsLaws
namespace Go.Proofs.Ytmafieomlhpdeaa
open Go.RowKit

theorem left_ways {L : List ByteArray} {pl pc k : Int} (h : plcB L pl pc = true) (h1 : 1 ≤ k) :
    (pc ≤ 0 ∧ pc = 0 ∧ Hid (leftP L pl pc k = ((0, 0, 0, false, 0), false))) ∨ (0 < pc ∧ pc ≤ k ∧ Hid (leftP L pl pc k = ((pl, 0, 0, false, -1), true))) ∨ (0 < pc ∧ k < pc ∧ Hid (leftP L pl pc k = ((pl, pc - k, 0, false, -1), true))) := by
  have q := plcB_spec h
  rcases (by omega : pc = 0 ∨ (0 < pc ∧ pc ≤ k) ∨ (0 < pc ∧ k < pc)) with e | ⟨e, e2⟩ | ⟨e, e2⟩
  · left; exact ⟨by omega, e, Lib.hid (by rw [leftP, if_neg (fun h => h.2.2 e)]; rfl)⟩
  · right; left; exact ⟨e, e2, Lib.hid (by rw [leftP, if_pos ⟨h, h1, by omega⟩, show max (pc - k) 0 = 0 from by omega])⟩
  · right; right; exact ⟨e, e2, Lib.hid (by rw [leftP, if_pos ⟨h, h1, by omega⟩, show max (pc - k) 0 = pc - k from by omega])⟩
theorem rightT_f {L : List ByteArray} {pl z : Int} (hz : szI L pl = z) : rightT L pl false = z - 1 := by rw [rightT, hz]; simp
theorem rightT_t {L : List ByteArray} {pl z : Int} (hz : szI L pl = z) : rightT L pl true = z := by rw [rightT, hz]; simp
theorem right_ways {L : List ByteArray} {pl pc k z : Int} (h : plcB L pl pc = true) (h1 : 1 ≤ k) (hz : szI L pl = z) :
    (z ≤ pc ∧ Hid (rightP L pl pc k false = ((0, 0, 0, false, 0), false)) ∧ Hid (rightP L pl pc k true = ((0, 0, 0, false, 0), false))) ∨
    (pc < z ∧ z - 1 ≤ pc ∧ Hid (rightP L pl pc k false = ((0, 0, 0, false, 0), false)) ∧ Hid (rightP L pl pc k true = ((pl, z, 0, false, -1), true))) ∨
    (pc < z - 1 ∧ pc + k ≤ z - 1 ∧ Hid (rightP L pl pc k false = ((pl, pc + k, 0, false, -1), true)) ∧ Hid (rightP L pl pc k true = ((pl, pc + k, 0, false, -1), true))) ∨
    (pc < z - 1 ∧ z - 1 < pc + k ∧ Hid (rightP L pl pc k false = ((pl, z - 1, 0, false, -1), true)) ∧ Hid (rightP L pl pc k true = ((pl, z, 0, false, -1), true))) := by
  have q := plcB_spec h
  have hf := rightT_f hz
  have ht := rightT_t hz
  rcases (by omega : z ≤ pc ∨ (pc < z ∧ z - 1 ≤ pc) ∨ (pc < z - 1 ∧ pc + k ≤ z - 1) ∨ (pc < z - 1 ∧ z - 1 < pc + k)) with e | ⟨e, e2⟩ | ⟨e, e2⟩ | ⟨e, e2⟩
  · left; refine ⟨e, Lib.hid ?_, Lib.hid ?_⟩
    · rw [rightP, if_neg]; rfl; rw [hf]; omega
    · rw [rightP, if_neg]; rfl; rw [ht]; omega
  · right; left; refine ⟨e, e2, Lib.hid ?_, Lib.hid ?_⟩
    · rw [rightP, if_neg]; rfl; rw [hf]; omega
    · rw [rightP, if_pos ⟨h, h1, by omega, by omega⟩, ht, show min (pc + k) z = z from by omega]
  · right; right; left; refine ⟨e, e2, Lib.hid ?_, Lib.hid ?_⟩
    · rw [rightP, if_pos ⟨h, h1, by omega, by omega⟩, hf, show min (pc + k) (z - 1) = pc + k from by omega]
    · rw [rightP, if_pos ⟨h, h1, by omega, by omega⟩, ht, show min (pc + k) z = pc + k from by omega]
  · right; right; right; refine ⟨e, e2, Lib.hid ?_, Lib.hid ?_⟩
    · rw [rightP, if_pos ⟨h, h1, by omega, by omega⟩, hf, show min (pc + k) (z - 1) = z - 1 from by omega]
    · rw [rightP, if_pos ⟨h, h1, by omega, by omega⟩, ht, show min (pc + k) z = z from by omega]

set_option maxHeartbeats 8000000 in
theorem charsEdges_walk (a : Option Addr) (cap : Nat) (L : List ByteArray) (sa sb sn : Int) (W : World) (hL : LinesAt W a L) (hsa : 0 ≤ sa ∧ sa ≤ 65535) (hsb : 0 ≤ sb ∧ sb ≤ 65535) (hsn : 0 ≤ sn ∧ sn ≤ 65535) :
    Calls Try.prog 8 #[.slice a L.length cap, .int .u16 sa, .int .u16 sb, .int .u16 sn] W fun e W' => e = .returned (.bool true) ∧ Below W.heap.size W W' := by
  obtain ⟨n0, n1⟩ := hsn
  cases hli : textB L with
  | false =>
    go_enter Try.func8, Try.ntmps8
    go_wp2_with (first | (go_at_call 23; refine (known7_any _).mono ?_; rintro e w1 ⟨rfl, hbl⟩; obtain ⟨x, rfl⟩ := ovr_of_below hbl; clear hbl) | (go_at_call 16; refine (text_any _ _ L _ (by (repeat (first | assumption | refine LinesAt.ovr ?_ _ | refine LinesAt.alloc ?_ _ | refine LinesAt.drewN ?_ _ | refine LinesAt.drew ?_)))).mono ?_; rintro e w1 ⟨rfl, rfl⟩))
    go_ret
    exact ⟨rfl, by (repeat (first | exact Below.refl _ _ | refine Below.alloc ?_ (by first | exact Nat.le_refl _ | (simp; done) | (simp; omega)) _ | refine below_ovr_of ?_ | refine drew_below ?_ _ | refine Below.drew ?_ | refine Below.setCell ?_ (by first | exact Nat.le_refl _ | (simp; done) | (simp; omega)) _ | assumption))⟩
  | true =>
    obtain ⟨h0, hn, htot, _⟩ := text_spec hli
    obtain ⟨pl, pc, hsl, hsc, hp⟩ := seat_facts (L := L) (x := sa) (y := sb) h0 hsa.1
    have HSLpl := Lib.hid hsl
    have HSCpl := Lib.hid hsc
    clear hsl hsc
    obtain ⟨p1, p2, p3, p4⟩ := plcB_spec hp
    obtain ⟨b, off, s, rfl, hb, hcell, hs, HS⟩ := line_facts hL p1 p2
    have hz := szI_eq HS.out
    have hsz := sizes_le htot
    have hzz := size_getD_le hsz pl.toNat
    rw [HS.out] at hzz p4
    clear hsz
    rcases left_ways (k := sn + 1) hp (by omega) with ⟨l1, -, HA⟩ | ⟨l1, l2, HA⟩ | ⟨l1, l2, HA⟩ <;> rcases right_ways (k := sn + 1) hp (by omega) hz with ⟨r1, HB, HC⟩ | ⟨r1, r2, HB, HC⟩ | ⟨r1, r2, HB, HC⟩ | ⟨r1, r2, HB, HC⟩
    all_goals clear hz
    all_goals (first | (exfalso; omega) | skip)
    all_goals (
      go_enter Try.func8, Try.ntmps8
      go_wp2_with (first | (go_at_call 23; refine (known7_any _).mono ?_; rintro e w1 ⟨rfl, hbl⟩; obtain ⟨x, rfl⟩ := ovr_of_below hbl; clear hbl) | (go_at_call 16; refine (text_any _ _ L _ (by (repeat (first | assumption | refine LinesAt.ovr ?_ _ | refine LinesAt.alloc ?_ _ | refine LinesAt.drewN ?_ _ | refine LinesAt.drew ?_)))).mono ?_; rintro e w1 ⟨rfl, rfl⟩) | (go_at_call 17; refine (seat_at _ _ L _ _ _ (by (repeat (first | assumption | refine LinesAt.ovr ?_ _ | refine LinesAt.alloc ?_ _ | refine LinesAt.drewN ?_ _ | refine LinesAt.drew ?_))) h0 hsa hsb HSLpl HSCpl).mono ?_; rintro e w1 ⟨rfl, hbl⟩; obtain ⟨x, rfl⟩ := ovr_of_below hbl; clear hbl) | (go_at_call 28; refine (cleft_any _ _ L _ _ _ _ (by (repeat (first | assumption | refine LinesAt.ovr ?_ _ | refine LinesAt.alloc ?_ _ | refine LinesAt.drewN ?_ _ | refine LinesAt.drew ?_))) (by omega) (by omega)).mono ?_; rw [HA.out]; rintro e w1 ⟨rfl, hbl⟩; obtain ⟨x, rfl⟩ := ovr_of_below hbl; clear hbl) | (go_at_call 29; refine (cright_any _ _ L _ _ _ _ _ (by (repeat (first | assumption | refine LinesAt.ovr ?_ _ | refine LinesAt.alloc ?_ _ | refine LinesAt.drewN ?_ _ | refine LinesAt.drew ?_))) (by omega)).mono ?_; rw [HB.out]; rintro e w1 ⟨rfl, hbl⟩; obtain ⟨x, rfl⟩ := ovr_of_below hbl; clear hbl) | (go_at_call 29; refine (cright_any _ _ L _ _ _ _ _ (by (repeat (first | assumption | refine LinesAt.ovr ?_ _ | refine LinesAt.alloc ?_ _ | refine LinesAt.drewN ?_ _ | refine LinesAt.drew ?_))) (by omega)).mono ?_; rw [HC.out]; rintro e w1 ⟨rfl, hbl⟩; obtain ⟨x, rfl⟩ := ovr_of_below hbl; clear hbl))
      all_goals (
        go_ret
        exact ⟨ret_bool (by simp; try omega), by (repeat (first | with_reducible exact Below.refl _ _ | (with_reducible refine Below.setCell ?_ ?_ _; rotate_left; · (first | exact Nat.le_refl _ | assumption | omega | (simp; done) | (simp; omega))) | (with_reducible refine Below.alloc ?_ ?_ _; rotate_left; · (first | exact Nat.le_refl _ | assumption | omega | (simp; done) | (simp; omega))) | with_reducible refine below_ovr_of ?_ | with_reducible refine drew_below ?_ _ | with_reducible refine Below.drew ?_ | with_reducible assumption))⟩))
end Go.Proofs.Ytmafieomlhpdeaa
