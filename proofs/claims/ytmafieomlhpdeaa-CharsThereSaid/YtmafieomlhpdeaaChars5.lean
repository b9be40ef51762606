/- The contracts of the references' Right, Last, Column. Conditions: none beyond what each says. -/
import Derived.Test.YtmafieomlhpdeaaChars4
namespace Go.Proofs.Ytmafieomlhpdeaa
open Go.RowKit

set_option maxHeartbeats 1000000 in
theorem rright_any (a : Option Addr) (cap : Nat) (L : List ByteArray) (pl pc n : Int) (past : Bool) (w : World) (hL : LinesAt w a L) (hsz : ∀ s ∈ L, s.size ≤ 100000) :
    Calls Try.prog 48 #[.slice a L.length cap, .agg #[.int .i64 pl, .int .i64 pc], .int .i64 n, .bool past] w fun e w' =>
      e = .returned (movV (rightP L pl pc n past)) ∧ Below w.heap.size w w' := by
  have hn := hL.2.1
  rcases may_ways L pl pc n with ⟨HQ, h⟩ | ⟨HQ, hp, h1⟩
  · have HP : Hid (rightP L pl pc n past = noMov) := Lib.hid (by rw [rightP, if_neg (fun e => h ⟨e.1, e.2.1⟩)])
    clear h hsz
    go_enter Try.func48, Try.ntmps48
    go_wp2_with (first | (go_at_call 57; refine (rmay_any _ _ L _ _ _ _ (by (repeat (first | assumption | refine LinesAt.ovr ?_ _ | refine LinesAt.alloc ?_ _ | refine LinesAt.drewN ?_ _ | refine LinesAt.drew ?_)))).mono ?_; rw [HQ.out]; rintro e w1 ⟨rfl, hbl⟩; obtain ⟨x, rfl⟩ := ovr_of_below hbl; clear hbl) | (go_at_call 58; refine (rnone_any _).mono ?_; rintro e w1 ⟨rfl, hbl⟩; obtain ⟨x, rfl⟩ := ovr_of_below hbl; clear hbl))
    refine bodyPost_ret (v := movV noMov) (by simp [results, Try.results48, go_sem, noMov]) rfl ⟨by rw [HP.out], by (repeat (first | exact Below.refl _ _ | refine Below.alloc ?_ (by first | exact Nat.le_refl _ | (simp; done) | (simp; omega)) _ | refine below_ovr_of ?_ | refine drew_below ?_ _ | refine Below.drew ?_ | refine Below.setCell ?_ (by first | exact Nat.le_refl _ | (simp; done) | (simp; omega)) _ | assumption))⟩
  · obtain ⟨p1, p2, p3, p4⟩ := plcB_spec hp
    have hz0 := size_getD_le hsz pl.toNat
    clear hsz
    obtain ⟨b, off, s, rfl, hb, hcell, hs, HS⟩ := line_facts hL p1 p2
    have hz := szI_eq HS.out
    rw [HS.out] at p4 hz0
    have HZ := Lib.hid hz
    clear hz
    obtain ⟨m, hm⟩ : ∃ m, min n 1073741824 = m := ⟨_, rfl⟩
    have m1 : 1 ≤ m := by omega
    have m2 : m ≤ 1073741824 := by omega
    have hmn : min (pc + n) ((s.size : Int) - 1) = min (pc + m) ((s.size : Int) - 1) ∧ min (pc + n) (s.size : Int) = min (pc + m) (s.size : Int) := by omega
    have HMN := Lib.hid hmn
    have HM := Lib.hid hm
    have hw1 : IntKind.i64.wrap (pc + m) = pc + m := IntWalk.i64_in _ (by omega)
    clear hmn hm
    by_cases h0 : s.size = 0
    · have HP : Hid (rightP L pl pc n past = noMov) := Lib.hid (by rw [rightP, if_neg]; rintro ⟨_, _, h, _⟩; rw [HZ.out] at h; omega)
      cases past
      all_goals (
        go_enter Try.func48, Try.ntmps48
        go_wp2_with (first | (go_at_call 57; refine (rmay_any _ _ L _ _ _ _ (by (repeat (first | assumption | refine LinesAt.ovr ?_ _ | refine LinesAt.alloc ?_ _ | refine LinesAt.drewN ?_ _ | refine LinesAt.drew ?_)))).mono ?_; rw [HQ.out]; rintro e w1 ⟨rfl, hbl⟩; obtain ⟨x, rfl⟩ := ovr_of_below hbl; clear hbl) | (go_at_call 58; refine (rnone_any _).mono ?_; rintro e w1 ⟨rfl, hbl⟩; obtain ⟨x, rfl⟩ := ovr_of_below hbl; clear hbl))
        refine bodyPost_ret (v := movV noMov) (by simp [results, Try.results48, go_sem, noMov]) rfl ⟨by rw [HP.out], by (repeat (first | exact Below.refl _ _ | refine Below.alloc ?_ (by first | exact Nat.le_refl _ | (simp; done) | (simp; omega)) _ | refine below_ovr_of ?_ | refine drew_below ?_ _ | refine Below.drew ?_ | refine Below.setCell ?_ (by first | exact Nat.le_refl _ | (simp; done) | (simp; omega)) _ | assumption))⟩)
    · have hs1 : 1 ≤ s.size := by omega
      have hb0 : ((s.size : Int) == 0) = false := beq_eq_false_iff_ne.2 (by omega)
      clear h0
      cases past
      · have ht : rightT L pl false = (s.size : Int) - 1 := by rw [rightT, HZ.out]; simp
        by_cases hlt : pc < (s.size : Int) - 1
        · have HP : Hid (rightP L pl pc n false = ((pl, min (pc + m) ((s.size : Int) - 1), 0, false, -1), true)) := Lib.hid (by rw [rightP, if_pos ⟨hp, h1, by rw [HZ.out]; omega, by rw [ht]; exact hlt⟩, ht, HMN.out.1])
          clear ht
          rcases (by omega : pc + m ≤ (s.size : Int) - 1 ∨ (s.size : Int) - 1 < pc + m) with k | k
          · go_enter Try.func48, Try.ntmps48
            go_wp2_with (go_at_call 57; refine (rmay_any _ _ L _ _ _ _ (by (repeat (first | assumption | refine LinesAt.ovr ?_ _ | refine LinesAt.alloc ?_ _ | refine LinesAt.drewN ?_ _ | refine LinesAt.drew ?_)))).mono ?_; rw [HQ.out]; rintro e w1 ⟨rfl, hbl⟩; obtain ⟨x, rfl⟩ := ovr_of_below hbl; clear hbl)
            go_region_held3 (fun w' => w'.cell? ⟨w.heap.size, 0, none⟩ = some (.int .i64 pl) ∧ w'.cell? ⟨w.heap.size, 1, none⟩ = some (.int .i64 pc)) (go_split_ands <;> first | assumption | (simp [go_sem]; done) | (simp [go_sem, *]; done) | (simp [go_sem]; omega)) ((first | (go_at_call 73; refine (rcapped_at _ _ HM _).mono ?_; rintro e w1 ⟨rfl, rfl⟩) | (go_at_call 64; refine (rto_any _ _ _).mono ?_; rintro e w1 ⟨rfl, hbl⟩; obtain ⟨x, rfl⟩ := ovr_of_below hbl; clear hbl)))
            all_goals (
              go_wp2
              refine bodyPost_ret (v := movV ((pl, pc + m, 0, false, -1), true)) (by simp [results, Try.results48, go_sem]) rfl ⟨by rw [HP.out, Int.min_eq_left k], by (repeat (first | exact Below.refl _ _ | refine Below.alloc ?_ (by first | exact Nat.le_refl _ | (simp; done) | (simp; omega)) _ | refine below_ovr_of ?_ | refine drew_below ?_ _ | refine Below.drew ?_ | refine Below.setCell ?_ (by first | exact Nat.le_refl _ | (simp; done) | (simp; omega)) _ | assumption))⟩)
          · go_enter Try.func48, Try.ntmps48
            go_wp2_with (go_at_call 57; refine (rmay_any _ _ L _ _ _ _ (by (repeat (first | assumption | refine LinesAt.ovr ?_ _ | refine LinesAt.alloc ?_ _ | refine LinesAt.drewN ?_ _ | refine LinesAt.drew ?_)))).mono ?_; rw [HQ.out]; rintro e w1 ⟨rfl, hbl⟩; obtain ⟨x, rfl⟩ := ovr_of_below hbl; clear hbl)
            go_region_held3 (fun w' => w'.cell? ⟨w.heap.size, 0, none⟩ = some (.int .i64 pl) ∧ w'.cell? ⟨w.heap.size, 1, none⟩ = some (.int .i64 pc)) (go_split_ands <;> first | assumption | (simp [go_sem]; done) | (simp [go_sem, *]; done) | (simp [go_sem]; omega)) ((first | (go_at_call 73; refine (rcapped_at _ _ HM _).mono ?_; rintro e w1 ⟨rfl, rfl⟩) | (go_at_call 64; refine (rto_any _ _ _).mono ?_; rintro e w1 ⟨rfl, hbl⟩; obtain ⟨x, rfl⟩ := ovr_of_below hbl; clear hbl)))
            all_goals (
              go_wp2
              refine bodyPost_ret (v := movV ((pl, (s.size : Int) - 1, 0, false, -1), true)) (by simp [results, Try.results48, go_sem]) rfl ⟨by rw [HP.out, Int.min_eq_right (by omega)], by (repeat (first | exact Below.refl _ _ | refine Below.alloc ?_ (by first | exact Nat.le_refl _ | (simp; done) | (simp; omega)) _ | refine below_ovr_of ?_ | refine drew_below ?_ _ | refine Below.drew ?_ | refine Below.setCell ?_ (by first | exact Nat.le_refl _ | (simp; done) | (simp; omega)) _ | assumption))⟩)
        · have HP : Hid (rightP L pl pc n false = noMov) := Lib.hid (by rw [rightP, if_neg]; rintro ⟨_, _, _, h⟩; rw [ht] at h; exact hlt h)
          have hge : (s.size : Int) - 1 ≤ pc := by omega
          clear ht hlt
          go_enter Try.func48, Try.ntmps48
          go_wp2_with (first | (go_at_call 57; refine (rmay_any _ _ L _ _ _ _ (by (repeat (first | assumption | refine LinesAt.ovr ?_ _ | refine LinesAt.alloc ?_ _ | refine LinesAt.drewN ?_ _ | refine LinesAt.drew ?_)))).mono ?_; rw [HQ.out]; rintro e w1 ⟨rfl, hbl⟩; obtain ⟨x, rfl⟩ := ovr_of_below hbl; clear hbl) | (go_at_call 58; refine (rnone_any _).mono ?_; rintro e w1 ⟨rfl, hbl⟩; obtain ⟨x, rfl⟩ := ovr_of_below hbl; clear hbl))
          refine bodyPost_ret (v := movV noMov) (by simp [results, Try.results48, go_sem, noMov]) rfl ⟨by rw [HP.out], by (repeat (first | exact Below.refl _ _ | refine Below.alloc ?_ (by first | exact Nat.le_refl _ | (simp; done) | (simp; omega)) _ | refine below_ovr_of ?_ | refine drew_below ?_ _ | refine Below.drew ?_ | refine Below.setCell ?_ (by first | exact Nat.le_refl _ | (simp; done) | (simp; omega)) _ | assumption))⟩
      · have ht : rightT L pl true = (s.size : Int) := by rw [rightT, HZ.out]; simp
        by_cases hlt : pc < (s.size : Int)
        · have HP : Hid (rightP L pl pc n true = ((pl, min (pc + m) (s.size : Int), 0, false, -1), true)) := Lib.hid (by rw [rightP, if_pos ⟨hp, h1, by rw [HZ.out]; omega, by rw [ht]; exact hlt⟩, ht, HMN.out.2])
          clear ht
          rcases (by omega : pc + m ≤ (s.size : Int) ∨ (s.size : Int) < pc + m) with k | k
          · go_enter Try.func48, Try.ntmps48
            go_wp2_with (go_at_call 57; refine (rmay_any _ _ L _ _ _ _ (by (repeat (first | assumption | refine LinesAt.ovr ?_ _ | refine LinesAt.alloc ?_ _ | refine LinesAt.drewN ?_ _ | refine LinesAt.drew ?_)))).mono ?_; rw [HQ.out]; rintro e w1 ⟨rfl, hbl⟩; obtain ⟨x, rfl⟩ := ovr_of_below hbl; clear hbl)
            go_region_held3 (fun w' => w'.cell? ⟨w.heap.size, 0, none⟩ = some (.int .i64 pl) ∧ w'.cell? ⟨w.heap.size, 1, none⟩ = some (.int .i64 pc)) (go_split_ands <;> first | assumption | (simp [go_sem]; done) | (simp [go_sem, *]; done) | (simp [go_sem]; omega)) ((first | (go_at_call 73; refine (rcapped_at _ _ HM _).mono ?_; rintro e w1 ⟨rfl, rfl⟩) | (go_at_call 64; refine (rto_any _ _ _).mono ?_; rintro e w1 ⟨rfl, hbl⟩; obtain ⟨x, rfl⟩ := ovr_of_below hbl; clear hbl)))
            all_goals (
              go_wp2
              refine bodyPost_ret (v := movV ((pl, pc + m, 0, false, -1), true)) (by simp [results, Try.results48, go_sem]) rfl ⟨by rw [HP.out, Int.min_eq_left k], by (repeat (first | exact Below.refl _ _ | refine Below.alloc ?_ (by first | exact Nat.le_refl _ | (simp; done) | (simp; omega)) _ | refine below_ovr_of ?_ | refine drew_below ?_ _ | refine Below.drew ?_ | refine Below.setCell ?_ (by first | exact Nat.le_refl _ | (simp; done) | (simp; omega)) _ | assumption))⟩)
          · go_enter Try.func48, Try.ntmps48
            go_wp2_with (go_at_call 57; refine (rmay_any _ _ L _ _ _ _ (by (repeat (first | assumption | refine LinesAt.ovr ?_ _ | refine LinesAt.alloc ?_ _ | refine LinesAt.drewN ?_ _ | refine LinesAt.drew ?_)))).mono ?_; rw [HQ.out]; rintro e w1 ⟨rfl, hbl⟩; obtain ⟨x, rfl⟩ := ovr_of_below hbl; clear hbl)
            go_region_held3 (fun w' => w'.cell? ⟨w.heap.size, 0, none⟩ = some (.int .i64 pl) ∧ w'.cell? ⟨w.heap.size, 1, none⟩ = some (.int .i64 pc)) (go_split_ands <;> first | assumption | (simp [go_sem]; done) | (simp [go_sem, *]; done) | (simp [go_sem]; omega)) ((first | (go_at_call 73; refine (rcapped_at _ _ HM _).mono ?_; rintro e w1 ⟨rfl, rfl⟩) | (go_at_call 64; refine (rto_any _ _ _).mono ?_; rintro e w1 ⟨rfl, hbl⟩; obtain ⟨x, rfl⟩ := ovr_of_below hbl; clear hbl)))
            all_goals (
              go_wp2
              refine bodyPost_ret (v := movV ((pl, (s.size : Int), 0, false, -1), true)) (by simp [results, Try.results48, go_sem]) rfl ⟨by rw [HP.out, Int.min_eq_right (by omega)], by (repeat (first | exact Below.refl _ _ | refine Below.alloc ?_ (by first | exact Nat.le_refl _ | (simp; done) | (simp; omega)) _ | refine below_ovr_of ?_ | refine drew_below ?_ _ | refine Below.drew ?_ | refine Below.setCell ?_ (by first | exact Nat.le_refl _ | (simp; done) | (simp; omega)) _ | assumption))⟩)
        · have HP : Hid (rightP L pl pc n true = noMov) := Lib.hid (by rw [rightP, if_neg]; rintro ⟨_, _, _, h⟩; rw [ht] at h; exact hlt h)
          have hge : (s.size : Int) ≤ pc := by omega
          clear ht hlt
          go_enter Try.func48, Try.ntmps48
          go_wp2_with (first | (go_at_call 57; refine (rmay_any _ _ L _ _ _ _ (by (repeat (first | assumption | refine LinesAt.ovr ?_ _ | refine LinesAt.alloc ?_ _ | refine LinesAt.drewN ?_ _ | refine LinesAt.drew ?_)))).mono ?_; rw [HQ.out]; rintro e w1 ⟨rfl, hbl⟩; obtain ⟨x, rfl⟩ := ovr_of_below hbl; clear hbl) | (go_at_call 58; refine (rnone_any _).mono ?_; rintro e w1 ⟨rfl, hbl⟩; obtain ⟨x, rfl⟩ := ovr_of_below hbl; clear hbl))
          refine bodyPost_ret (v := movV noMov) (by simp [results, Try.results48, go_sem, noMov]) rfl ⟨by rw [HP.out], by (repeat (first | exact Below.refl _ _ | refine Below.alloc ?_ (by first | exact Nat.le_refl _ | (simp; done) | (simp; omega)) _ | refine below_ovr_of ?_ | refine drew_below ?_ _ | refine Below.drew ?_ | refine Below.setCell ?_ (by first | exact Nat.le_refl _ | (simp; done) | (simp; omega)) _ | assumption))⟩
end Go.Proofs.Ytmafieomlhpdeaa
