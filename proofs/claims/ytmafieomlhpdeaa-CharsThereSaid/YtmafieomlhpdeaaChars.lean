/- The contracts of package chars. Conditions: none beyond what each says. -/
import Derived.Test.YtmafieomlhpdeaaCharsP
import Derived.Test.YtmafieomlhpdeaaVert
import Derived.Deep.RegionHeld3
namespace Go.Proofs.Ytmafieomlhpdeaa
open Go.RowKit

set_option maxHeartbeats 1000000 in
theorem cfails_any (a : Option Addr) (cap : Nat) (L : List ByteArray) (pl pc n : Int) (w : World) (hL : LinesAt w a L) :
    Calls Try.prog 61 #[.slice a L.length cap, .agg #[.int .i64 pl, .int .i64 pc], .int .i64 n] w fun e w' =>
      e = .returned (.bool (!(plcB L pl pc && decide (1 ≤ n)))) ∧ Below w.heap.size w w' := by
  by_cases h1 : 1 ≤ n
  · cases hp : plcB L pl pc with
    | false =>
      go_enter Try.func61, Try.ntmps61
      go_wp2_with (go_at_call 55; refine (place_any _ _ L _ _ _ (by (repeat (first | assumption | refine LinesAt.ovr ?_ _ | refine LinesAt.alloc ?_ _ | refine LinesAt.drewN ?_ _ | refine LinesAt.drew ?_)))).mono ?_; rintro e w1 ⟨rfl, hbl⟩; obtain ⟨x, rfl⟩ := ovr_of_below hbl; clear hbl)
      go_ret
      exact ⟨rfl, by (repeat (first | exact Below.refl _ _ | refine Below.alloc ?_ (by first | exact Nat.le_refl _ | (simp; done) | (simp; omega)) _ | refine below_ovr_of ?_ | refine drew_below ?_ _ | refine Below.drew ?_ | refine Below.setCell ?_ (by first | exact Nat.le_refl _ | (simp; done) | (simp; omega)) _ | assumption))⟩
    | true =>
      go_enter Try.func61, Try.ntmps61
      go_wp2_with (go_at_call 55; refine (place_any _ _ L _ _ _ (by (repeat (first | assumption | refine LinesAt.ovr ?_ _ | refine LinesAt.alloc ?_ _ | refine LinesAt.drewN ?_ _ | refine LinesAt.drew ?_)))).mono ?_; rintro e w1 ⟨rfl, hbl⟩; obtain ⟨x, rfl⟩ := ovr_of_below hbl; clear hbl)
      go_ret
      exact ⟨ret_bool (by simp [h1]), by (repeat (first | exact Below.refl _ _ | refine Below.alloc ?_ (by first | exact Nat.le_refl _ | (simp; done) | (simp; omega)) _ | refine below_ovr_of ?_ | refine drew_below ?_ _ | refine Below.drew ?_ | refine Below.setCell ?_ (by first | exact Nat.le_refl _ | (simp; done) | (simp; omega)) _ | assumption))⟩
  · have hb : (!(plcB L pl pc && decide (1 ≤ n))) = true := by simp [h1]
    have HB := Lib.hid hb
    have h1' : n < 1 := by omega
    clear hb h1
    go_enter Try.func61, Try.ntmps61
    go_wp2
    go_ret
    exact ⟨ret_bool (by rw [HB.out]), by (repeat (first | exact Below.refl _ _ | refine Below.alloc ?_ (by first | exact Nat.le_refl _ | (simp; done) | (simp; omega)) _ | refine below_ovr_of ?_ | refine drew_below ?_ _ | refine Below.drew ?_ | refine Below.setCell ?_ (by first | exact Nat.le_refl _ | (simp; done) | (simp; omega)) _ | assumption))⟩

set_option maxHeartbeats 1000000 in
theorem cto_any (pl pc c : Int) (w : World) : Calls Try.prog 63 #[.agg #[.int .i64 pl, .int .i64 pc], .int .i64 c] w fun e w' =>
    e = .returned (movV ((pl, c, 0, false, -1), true)) ∧ Below w.heap.size w w' := by
  go_enter Try.func63, Try.ntmps63
  go_wp2
  refine bodyPost_ret (v := movV ((pl, c, 0, false, -1), true)) (by simp [results, Try.results63, go_sem]) rfl ⟨rfl, by (repeat (first | exact Below.refl _ _ | refine Below.alloc ?_ (by first | exact Nat.le_refl _ | (simp; done) | (simp; omega)) _ | refine below_ovr_of ?_ | refine drew_below ?_ _ | refine Below.drew ?_ | refine Below.setCell ?_ (by first | exact Nat.le_refl _ | (simp; done) | (simp; omega)) _ | assumption))⟩

set_option maxHeartbeats 1000000 in
theorem cleft_any (a : Option Addr) (cap : Nat) (L : List ByteArray) (pl pc n : Int) (w : World) (hL : LinesAt w a L) (hn2 : n ≤ 9223372036854775807) (hpc : pc ≤ 9223372036854775807) :
    Calls Try.prog 28 #[.slice a L.length cap, .agg #[.int .i64 pl, .int .i64 pc], .int .i64 n] w fun e w' =>
      e = .returned (movV (leftP L pl pc n)) ∧ Below w.heap.size w w' := by
  obtain ⟨q, hq⟩ : ∃ q, (plcB L pl pc && decide (1 ≤ n)) = q := ⟨_, rfl⟩
  have HQ := Lib.hid hq
  cases q with
  | false =>
    have HP : Hid (leftP L pl pc n = noMov) := Lib.hid (by rw [leftP, if_neg]; rintro ⟨h1, h2, _⟩; rw [h1] at hq; simp at hq; omega)
    clear hq
    go_enter Try.func28, Try.ntmps28
    go_wp2_with (go_at_call 61; refine (cfails_any _ _ L _ _ _ _ (by (repeat (first | assumption | refine LinesAt.ovr ?_ _ | refine LinesAt.alloc ?_ _ | refine LinesAt.drewN ?_ _ | refine LinesAt.drew ?_)))).mono ?_; rw [HQ.out]; rintro e w1 ⟨rfl, hbl⟩; obtain ⟨x, rfl⟩ := ovr_of_below hbl; clear hbl)
    refine bodyPost_ret (v := movV noMov) (by simp [results, Try.results28, go_sem, noMov]) rfl ⟨by rw [HP.out], by (repeat (first | exact Below.refl _ _ | refine Below.alloc ?_ (by first | exact Nat.le_refl _ | (simp; done) | (simp; omega)) _ | refine below_ovr_of ?_ | refine drew_below ?_ _ | refine Below.drew ?_ | refine Below.setCell ?_ (by first | exact Nat.le_refl _ | (simp; done) | (simp; omega)) _ | assumption))⟩
  | true =>
    simp only [Bool.and_eq_true, decide_eq_true_eq] at hq
    obtain ⟨hp, h1⟩ := hq
    obtain ⟨p1, p2, p3, p4⟩ := plcB_spec hp
    by_cases h0 : pc = 0
    · have HP : Hid (leftP L pl pc n = noMov) := Lib.hid (by rw [leftP, if_neg]; rintro ⟨_, _, h⟩; exact h h0)
      subst h0
      go_enter Try.func28, Try.ntmps28
      go_wp2_with (go_at_call 61; refine (cfails_any _ _ L _ _ _ _ (by (repeat (first | assumption | refine LinesAt.ovr ?_ _ | refine LinesAt.alloc ?_ _ | refine LinesAt.drewN ?_ _ | refine LinesAt.drew ?_)))).mono ?_; rw [HQ.out]; rintro e w1 ⟨rfl, hbl⟩; obtain ⟨x, rfl⟩ := ovr_of_below hbl; clear hbl)
      refine bodyPost_ret (v := movV noMov) (by simp [results, Try.results28, go_sem, noMov]) rfl ⟨by rw [HP.out], by (repeat (first | exact Below.refl _ _ | refine Below.alloc ?_ (by first | exact Nat.le_refl _ | (simp; done) | (simp; omega)) _ | refine below_ovr_of ?_ | refine drew_below ?_ _ | refine Below.drew ?_ | refine Below.setCell ?_ (by first | exact Nat.le_refl _ | (simp; done) | (simp; omega)) _ | assumption))⟩
    · have HP : Hid (leftP L pl pc n = ((pl, max (pc - n) 0, 0, false, -1), true)) := Lib.hid (by rw [leftP, if_pos ⟨hp, h1, h0⟩])
      have hb : (pc == 0) = false := beq_eq_false_iff_ne.2 h0
      rcases (by omega : n ≤ pc ∨ pc < n) with k | k
      · clear h0
        go_enter Try.func28, Try.ntmps28
        go_wp2_with (first | (go_at_call 61; refine (cfails_any _ _ L _ _ _ _ (by (repeat (first | assumption | refine LinesAt.ovr ?_ _ | refine LinesAt.alloc ?_ _ | refine LinesAt.drewN ?_ _ | refine LinesAt.drew ?_)))).mono ?_; rw [HQ.out]; rintro e w1 ⟨rfl, hbl⟩; obtain ⟨x, rfl⟩ := ovr_of_below hbl; clear hbl) | (go_at_call 63; refine (cto_any _ _ _ _).mono ?_; rintro e w1 ⟨rfl, hbl⟩; obtain ⟨x, rfl⟩ := ovr_of_below hbl; clear hbl))
        refine bodyPost_ret (v := movV ((pl, pc - n, 0, false, -1), true)) (by simp [results, Try.results28, go_sem]) rfl ⟨by rw [HP.out]; rw [show max (pc - n) 0 = pc - n from by omega], by (repeat (first | exact Below.refl _ _ | refine Below.alloc ?_ (by first | exact Nat.le_refl _ | (simp; done) | (simp; omega)) _ | refine below_ovr_of ?_ | refine drew_below ?_ _ | refine Below.drew ?_ | refine Below.setCell ?_ (by first | exact Nat.le_refl _ | (simp; done) | (simp; omega)) _ | assumption))⟩
      · clear h0
        go_enter Try.func28, Try.ntmps28
        go_wp2_with (first | (go_at_call 61; refine (cfails_any _ _ L _ _ _ _ (by (repeat (first | assumption | refine LinesAt.ovr ?_ _ | refine LinesAt.alloc ?_ _ | refine LinesAt.drewN ?_ _ | refine LinesAt.drew ?_)))).mono ?_; rw [HQ.out]; rintro e w1 ⟨rfl, hbl⟩; obtain ⟨x, rfl⟩ := ovr_of_below hbl; clear hbl) | (go_at_call 63; refine (cto_any _ _ _ _).mono ?_; rintro e w1 ⟨rfl, hbl⟩; obtain ⟨x, rfl⟩ := ovr_of_below hbl; clear hbl))
        refine bodyPost_ret (v := movV ((pl, 0, 0, false, -1), true)) (by simp [results, Try.results28, go_sem]) rfl ⟨by rw [HP.out]; rw [show max (pc - n) 0 = 0 from by omega], by (repeat (first | exact Below.refl _ _ | refine Below.alloc ?_ (by first | exact Nat.le_refl _ | (simp; done) | (simp; omega)) _ | refine below_ovr_of ?_ | refine drew_below ?_ _ | refine Below.drew ?_ | refine Below.setCell ?_ (by first | exact Nat.le_refl _ | (simp; done) | (simp; omega)) _ | assumption))⟩

set_option maxHeartbeats 1000000 in
theorem cright_any (a : Option Addr) (cap : Nat) (L : List ByteArray) (pl pc n : Int) (past : Bool) (w : World) (hL : LinesAt w a L) (hn2 : n ≤ 9223372036854775807) :
    Calls Try.prog 29 #[.slice a L.length cap, .agg #[.int .i64 pl, .int .i64 pc], .int .i64 n, .bool past] w fun e w' =>
      e = .returned (movV (rightP L pl pc n past)) ∧ Below w.heap.size w w' := by
  have hn := hL.2.1
  obtain ⟨q, hq⟩ : ∃ q, (plcB L pl pc && decide (1 ≤ n)) = q := ⟨_, rfl⟩
  have HQ := Lib.hid hq
  cases q with
  | false =>
    have HP : Hid (rightP L pl pc n past = noMov) := Lib.hid (by rw [rightP, if_neg]; rintro ⟨h1, h2, _⟩; rw [h1] at hq; simp at hq; omega)
    clear hq
    go_enter Try.func29, Try.ntmps29
    go_wp2_with (go_at_call 61; refine (cfails_any _ _ L _ _ _ _ (by (repeat (first | assumption | refine LinesAt.ovr ?_ _ | refine LinesAt.alloc ?_ _ | refine LinesAt.drewN ?_ _ | refine LinesAt.drew ?_)))).mono ?_; rw [HQ.out]; rintro e w1 ⟨rfl, hbl⟩; obtain ⟨x, rfl⟩ := ovr_of_below hbl; clear hbl)
    refine bodyPost_ret (v := movV noMov) (by simp [results, Try.results29, go_sem, noMov]) rfl ⟨by rw [HP.out], by (repeat (first | exact Below.refl _ _ | refine Below.alloc ?_ (by first | exact Nat.le_refl _ | (simp; done) | (simp; omega)) _ | refine below_ovr_of ?_ | refine drew_below ?_ _ | refine Below.drew ?_ | refine Below.setCell ?_ (by first | exact Nat.le_refl _ | (simp; done) | (simp; omega)) _ | assumption))⟩
  | true =>
    simp only [Bool.and_eq_true, decide_eq_true_eq] at hq
    obtain ⟨hp, h1⟩ := hq
    obtain ⟨p1, p2, p3, p4⟩ := plcB_spec hp
    obtain ⟨b, off, s, rfl, hb, hcell, hs, HS⟩ := line_facts hL p1 p2
    have hz := szI_eq HS.out
    rw [HS.out] at p4
    have HZ := Lib.hid hz
    clear hz
    by_cases h0 : s.size = 0
    · have HP : Hid (rightP L pl pc n past = noMov) := Lib.hid (by rw [rightP, if_neg]; rintro ⟨_, _, h, _⟩; rw [HZ.out] at h; omega)
      have he := toList_nil h0
      go_enter Try.func29, Try.ntmps29
      go_wp2_with (go_at_call 61; refine (cfails_any _ _ L _ _ _ _ (by (repeat (first | assumption | refine LinesAt.ovr ?_ _ | refine LinesAt.alloc ?_ _ | refine LinesAt.drewN ?_ _ | refine LinesAt.drew ?_)))).mono ?_; rw [HQ.out]; rintro e w1 ⟨rfl, hbl⟩; obtain ⟨x, rfl⟩ := ovr_of_below hbl; clear hbl)
      refine bodyPost_ret (v := movV noMov) (by simp [results, Try.results29, go_sem, noMov]) rfl ⟨by rw [HP.out], by (repeat (first | exact Below.refl _ _ | refine Below.alloc ?_ (by first | exact Nat.le_refl _ | (simp; done) | (simp; omega)) _ | refine below_ovr_of ?_ | refine drew_below ?_ _ | refine Below.drew ?_ | refine Below.setCell ?_ (by first | exact Nat.le_refl _ | (simp; done) | (simp; omega)) _ | assumption))⟩
    · have he := toList_some (s := s) (by omega)
      have h0' : 1 ≤ s.size := by omega
      clear h0
      cases past
      · have ht : rightT L pl false = (s.size : Int) - 1 := by rw [rightT, HZ.out]; simp
        by_cases hlt : pc < (s.size : Int) - 1
        · have HP : Hid (rightP L pl pc n false = ((pl, min (pc + n) ((s.size : Int) - 1), 0, false, -1), true)) := Lib.hid (by rw [rightP, if_pos ⟨hp, h1, by rw [HZ.out]; omega, by rw [ht]; exact hlt⟩, ht])
          clear ht
          rcases (by omega : n ≤ (s.size : Int) - 1 - pc ∨ (s.size : Int) - 1 - pc < n) with k | k
          · go_enter Try.func29, Try.ntmps29
            go_wp2_with (first | (go_at_call 61; refine (cfails_any _ _ L _ _ _ _ (by (repeat (first | assumption | refine LinesAt.ovr ?_ _ | refine LinesAt.alloc ?_ _ | refine LinesAt.drewN ?_ _ | refine LinesAt.drew ?_)))).mono ?_; rw [HQ.out]; rintro e w1 ⟨rfl, hbl⟩; obtain ⟨x, rfl⟩ := ovr_of_below hbl; clear hbl) | (go_at_call 63; refine (cto_any _ _ _ _).mono ?_; rintro e w1 ⟨rfl, hbl⟩; obtain ⟨x, rfl⟩ := ovr_of_below hbl; clear hbl))
            refine bodyPost_ret (v := movV ((pl, pc + n, 0, false, -1), true)) (by simp [results, Try.results29, go_sem]) rfl ⟨by rw [HP.out]; rw [show min (pc + n) ((s.size : Int) - 1) = pc + n from by omega], by (repeat (first | exact Below.refl _ _ | refine Below.alloc ?_ (by first | exact Nat.le_refl _ | (simp; done) | (simp; omega)) _ | refine below_ovr_of ?_ | refine drew_below ?_ _ | refine Below.drew ?_ | refine Below.setCell ?_ (by first | exact Nat.le_refl _ | (simp; done) | (simp; omega)) _ | assumption))⟩
          · go_enter Try.func29, Try.ntmps29
            go_wp2_with (first | (go_at_call 61; refine (cfails_any _ _ L _ _ _ _ (by (repeat (first | assumption | refine LinesAt.ovr ?_ _ | refine LinesAt.alloc ?_ _ | refine LinesAt.drewN ?_ _ | refine LinesAt.drew ?_)))).mono ?_; rw [HQ.out]; rintro e w1 ⟨rfl, hbl⟩; obtain ⟨x, rfl⟩ := ovr_of_below hbl; clear hbl) | (go_at_call 63; refine (cto_any _ _ _ _).mono ?_; rintro e w1 ⟨rfl, hbl⟩; obtain ⟨x, rfl⟩ := ovr_of_below hbl; clear hbl))
            refine bodyPost_ret (v := movV ((pl, (s.size : Int) - 1, 0, false, -1), true)) (by simp [results, Try.results29, go_sem]; try omega) rfl ⟨by rw [HP.out]; rw [show min (pc + n) ((s.size : Int) - 1) = (s.size : Int) - 1 from by omega], by (repeat (first | exact Below.refl _ _ | refine Below.alloc ?_ (by first | exact Nat.le_refl _ | (simp; done) | (simp; omega)) _ | refine below_ovr_of ?_ | refine drew_below ?_ _ | refine Below.drew ?_ | refine Below.setCell ?_ (by first | exact Nat.le_refl _ | (simp; done) | (simp; omega)) _ | assumption))⟩
        · have HP : Hid (rightP L pl pc n false = noMov) := Lib.hid (by rw [rightP, if_neg]; rintro ⟨_, _, _, h⟩; rw [ht] at h; exact hlt h)
          have hge : (s.size : Int) - 1 ≤ pc := by omega
          clear ht hlt
          go_enter Try.func29, Try.ntmps29
          go_wp2_with (go_at_call 61; refine (cfails_any _ _ L _ _ _ _ (by (repeat (first | assumption | refine LinesAt.ovr ?_ _ | refine LinesAt.alloc ?_ _ | refine LinesAt.drewN ?_ _ | refine LinesAt.drew ?_)))).mono ?_; rw [HQ.out]; rintro e w1 ⟨rfl, hbl⟩; obtain ⟨x, rfl⟩ := ovr_of_below hbl; clear hbl)
          refine bodyPost_ret (v := movV noMov) (by simp [results, Try.results29, go_sem, noMov]) rfl ⟨by rw [HP.out], by (repeat (first | exact Below.refl _ _ | refine Below.alloc ?_ (by first | exact Nat.le_refl _ | (simp; done) | (simp; omega)) _ | refine below_ovr_of ?_ | refine drew_below ?_ _ | refine Below.drew ?_ | refine Below.setCell ?_ (by first | exact Nat.le_refl _ | (simp; done) | (simp; omega)) _ | assumption))⟩
      · have ht : rightT L pl true = (s.size : Int) := by rw [rightT, HZ.out]; simp
        by_cases hlt : pc < (s.size : Int)
        · have HP : Hid (rightP L pl pc n true = ((pl, min (pc + n) (s.size : Int), 0, false, -1), true)) := Lib.hid (by rw [rightP, if_pos ⟨hp, h1, by rw [HZ.out]; omega, by rw [ht]; exact hlt⟩, ht])
          clear ht
          rcases (by omega : n ≤ (s.size : Int) - pc ∨ (s.size : Int) - pc < n) with k | k
          · go_enter Try.func29, Try.ntmps29
            go_wp2_with (first | (go_at_call 61; refine (cfails_any _ _ L _ _ _ _ (by (repeat (first | assumption | refine LinesAt.ovr ?_ _ | refine LinesAt.alloc ?_ _ | refine LinesAt.drewN ?_ _ | refine LinesAt.drew ?_)))).mono ?_; rw [HQ.out]; rintro e w1 ⟨rfl, hbl⟩; obtain ⟨x, rfl⟩ := ovr_of_below hbl; clear hbl) | (go_at_call 63; refine (cto_any _ _ _ _).mono ?_; rintro e w1 ⟨rfl, hbl⟩; obtain ⟨x, rfl⟩ := ovr_of_below hbl; clear hbl))
            refine bodyPost_ret (v := movV ((pl, pc + n, 0, false, -1), true)) (by simp [results, Try.results29, go_sem]) rfl ⟨by rw [HP.out]; rw [show min (pc + n) (s.size : Int) = pc + n from by omega], by (repeat (first | exact Below.refl _ _ | refine Below.alloc ?_ (by first | exact Nat.le_refl _ | (simp; done) | (simp; omega)) _ | refine below_ovr_of ?_ | refine drew_below ?_ _ | refine Below.drew ?_ | refine Below.setCell ?_ (by first | exact Nat.le_refl _ | (simp; done) | (simp; omega)) _ | assumption))⟩
          · go_enter Try.func29, Try.ntmps29
            go_wp2_with (first | (go_at_call 61; refine (cfails_any _ _ L _ _ _ _ (by (repeat (first | assumption | refine LinesAt.ovr ?_ _ | refine LinesAt.alloc ?_ _ | refine LinesAt.drewN ?_ _ | refine LinesAt.drew ?_)))).mono ?_; rw [HQ.out]; rintro e w1 ⟨rfl, hbl⟩; obtain ⟨x, rfl⟩ := ovr_of_below hbl; clear hbl) | (go_at_call 63; refine (cto_any _ _ _ _).mono ?_; rintro e w1 ⟨rfl, hbl⟩; obtain ⟨x, rfl⟩ := ovr_of_below hbl; clear hbl))
            refine bodyPost_ret (v := movV ((pl, (s.size : Int), 0, false, -1), true)) (by simp [results, Try.results29, go_sem]; try omega) rfl ⟨by rw [HP.out]; rw [show min (pc + n) (s.size : Int) = (s.size : Int) from by omega], by (repeat (first | exact Below.refl _ _ | refine Below.alloc ?_ (by first | exact Nat.le_refl _ | (simp; done) | (simp; omega)) _ | refine below_ovr_of ?_ | refine drew_below ?_ _ | refine Below.drew ?_ | refine Below.setCell ?_ (by first | exact Nat.le_refl _ | (simp; done) | (simp; omega)) _ | assumption))⟩
        · have HP : Hid (rightP L pl pc n true = noMov) := Lib.hid (by rw [rightP, if_neg]; rintro ⟨_, _, _, h⟩; rw [ht] at h; exact hlt h)
          have hge : (s.size : Int) ≤ pc := by omega
          clear ht hlt
          go_enter Try.func29, Try.ntmps29
          go_wp2_with (go_at_call 61; refine (cfails_any _ _ L _ _ _ _ (by (repeat (first | assumption | refine LinesAt.ovr ?_ _ | refine LinesAt.alloc ?_ _ | refine LinesAt.drewN ?_ _ | refine LinesAt.drew ?_)))).mono ?_; rw [HQ.out]; rintro e w1 ⟨rfl, hbl⟩; obtain ⟨x, rfl⟩ := ovr_of_below hbl; clear hbl)
          refine bodyPost_ret (v := movV noMov) (by simp [results, Try.results29, go_sem, noMov]) rfl ⟨by rw [HP.out], by (repeat (first | exact Below.refl _ _ | refine Below.alloc ?_ (by first | exact Nat.le_refl _ | (simp; done) | (simp; omega)) _ | refine below_ovr_of ?_ | refine drew_below ?_ _ | refine Below.drew ?_ | refine Below.setCell ?_ (by first | exact Nat.le_refl _ | (simp; done) | (simp; omega)) _ | assumption))⟩
end Go.Proofs.Ytmafieomlhpdeaa
