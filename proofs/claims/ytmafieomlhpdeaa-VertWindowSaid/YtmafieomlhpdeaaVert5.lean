/- The contracts of the references' Vertical, Goto, Screen. Conditions: none beyond what each says. -/
import Derived.Test.YtmafieomlhpdeaaVert4
namespace Go.Proofs.Ytmafieomlhpdeaa
open Go.RowKit

set_option maxHeartbeats 2000000 in
theorem rvertical_any (a : Option Addr) (cap : Nat) (L : List ByteArray) (pl pc n want : Int) (up : Bool) (w : World) (hL : LinesAt w a L) (hlen : L.length ≤ 1000000) :
    Calls Try.prog 39 #[.slice a L.length cap, .agg #[.int .i64 pl, .int .i64 pc], .int .i64 n, .int .i64 want, .bool up] w fun e w' =>
      e = .returned (movV (vertP L pl pc n want up)) ∧ Below w.heap.size w w' := by
  cases hp : plcB L pl pc with
  | false =>
    have HP := Lib.hid (vertP_no (L := L) (pl := pl) (pc := pc) (n := n) (want := want) (up := up) (fun e => by rw [hp] at e; simp at e))
    go_enter Try.func39, Try.ntmps39
    go_wp2_with (first | (go_at_call 57; refine (rmay_any _ _ L _ _ _ _ (by (repeat (first | assumption | refine LinesAt.ovr ?_ _ | refine LinesAt.alloc ?_ _ | refine LinesAt.drewN ?_ _ | refine LinesAt.drew ?_)))).mono ?_; rintro e w1 ⟨rfl, hbl⟩; obtain ⟨x, rfl⟩ := ovr_of_below hbl; clear hbl) | (go_at_call 58; refine (rnone_any _).mono ?_; rintro e w1 ⟨rfl, hbl⟩; obtain ⟨x, rfl⟩ := ovr_of_below hbl; clear hbl))
    refine bodyPost_ret (v := movV noMov) (by simp [results, Try.results39, go_sem, noMov]) rfl ⟨by rw [HP.out], by (repeat (first | exact Below.refl _ _ | refine Below.alloc ?_ (by first | exact Nat.le_refl _ | (simp; done) | (simp; omega)) _ | refine below_ovr_of ?_ | refine drew_below ?_ _ | refine Below.drew ?_ | refine Below.setCell ?_ (by first | exact Nat.le_refl _ | (simp; done) | (simp; omega)) _ | assumption))⟩
  | true =>
    obtain ⟨p1, p2, p3, p4⟩ := plcB_spec hp
    by_cases h1 : 1 ≤ n
    · obtain ⟨m, hm⟩ : ∃ m, min n 1073741824 = m := ⟨_, rfl⟩
      have m1 : 1 ≤ m := by omega
      have m2 : m ≤ 1073741824 := by omega
      rcases vertI_iff (up := up) hp (by omega : 0 ≤ n) hlen with ⟨v1, v2, v3, v4⟩ | ⟨v1, v2⟩
      · obtain ⟨b, off, s, rfl, hb, hcell, hs, HS⟩ := line_facts hL v3 v4
        have hy := vertP_yes (want := want) ⟨hp, h1, v1⟩ rfl
        rw [szI_eq HS.out] at hy
        rw [hm] at v2
        rw [← v2] at hy v3 v4 hcell
        have HY := Lib.hid hy
        have HM := Lib.hid hm
        clear hy hm v2 v1 HS
        obtain ⟨t, ht⟩ : ∃ t, vertT pl m up = t := ⟨_, rfl⟩
        rw [ht] at HY v3 v4 hcell
        have hw : (up = true ∧ t = pl - m) ∨ (up = false ∧ t = pl + m) := by
          cases up
          · right; exact ⟨rfl, ht.symm⟩
          · left; exact ⟨rfl, ht.symm⟩
        clear ht
        rcases hw with ⟨rfl, rfl⟩ | ⟨rfl, rfl⟩
        · rcases (by omega : want < 0 ∨ (0 ≤ want ∧ want ≤ 1073741824) ∨ 1073741824 < want) with k1 | ⟨k1, k2⟩ | k1
          all_goals (
            go_enter Try.func39, Try.ntmps39
            go_wp2_with (go_at_call 57; refine (rmay_any _ _ L _ _ _ _ (by (repeat (first | assumption | refine LinesAt.ovr ?_ _ | refine LinesAt.alloc ?_ _ | refine LinesAt.drewN ?_ _ | refine LinesAt.drew ?_)))).mono ?_; rintro e w1 ⟨rfl, hbl⟩; obtain ⟨x, rfl⟩ := ovr_of_below hbl; clear hbl)
            (refine wp_region_ovr (by kernel_rfl) (by kernel_rfl) ?_; (repeat (go_big_quiet_step ((go_at_call 73; exact quiet_same (rcapped_at _ _ HM _))))); refine wpQuiet_nil ?_; rintro _ ⟨zq, rfl⟩)
            go_wp2
            (refine wp_region_ovr (by kernel_rfl) (by kernel_rfl) ?_; (repeat (go_big_quiet_step ((go_at_call 73; exact quiet_same (rcapped_at _ _ HM _))))); refine wpQuiet_nil ?_; rintro _ ⟨zq, rfl⟩)
            go_wp2_with (go_at_call 74; refine (rlast_any _ _ (by omega)).mono ?_; rintro e w1 ⟨rfl, rfl⟩)
            all_goals (simp [bodyPost, results, Try.results39, go_sem])
            all_goals (rw [HY.out]; refine ⟨?_, by (repeat (first | exact Below.refl _ _ | refine Below.alloc ?_ (by first | exact Nat.le_refl _ | (simp; done) | (simp; omega)) _ | refine below_ovr_of ?_ | refine drew_below ?_ _ | refine Below.drew ?_ | refine Below.setCell ?_ (by first | exact Nat.le_refl _ | (simp; done) | (simp; omega)) _ | assumption))⟩; simp only [clampW, Int.max_def, Int.min_def]; simp only [true_and, and_true]; try omega))
        · rcases (by omega : want < 0 ∨ (0 ≤ want ∧ want ≤ 1073741824) ∨ 1073741824 < want) with k1 | ⟨k1, k2⟩ | k1
          all_goals (
            go_enter Try.func39, Try.ntmps39
            go_wp2_with (go_at_call 57; refine (rmay_any _ _ L _ _ _ _ (by (repeat (first | assumption | refine LinesAt.ovr ?_ _ | refine LinesAt.alloc ?_ _ | refine LinesAt.drewN ?_ _ | refine LinesAt.drew ?_)))).mono ?_; rintro e w1 ⟨rfl, hbl⟩; obtain ⟨x, rfl⟩ := ovr_of_below hbl; clear hbl)
            (refine wp_region_ovr (by kernel_rfl) (by kernel_rfl) ?_; (repeat (go_big_quiet_step ((go_at_call 73; exact quiet_same (rcapped_at _ _ HM _))))); refine wpQuiet_nil ?_; rintro _ ⟨zq, rfl⟩)
            go_wp2_with (go_at_call 74; refine (rlast_any _ _ (by omega)).mono ?_; rintro e w1 ⟨rfl, rfl⟩)
            all_goals (simp [bodyPost, results, Try.results39, go_sem])
            all_goals (rw [HY.out]; refine ⟨?_, by (repeat (first | exact Below.refl _ _ | refine Below.alloc ?_ (by first | exact Nat.le_refl _ | (simp; done) | (simp; omega)) _ | refine below_ovr_of ?_ | refine drew_below ?_ _ | refine Below.drew ?_ | refine Below.setCell ?_ (by first | exact Nat.le_refl _ | (simp; done) | (simp; omega)) _ | assumption))⟩; simp only [clampW, Int.max_def, Int.min_def]; simp only [true_and, and_true]; try omega))
      · have HY := Lib.hid (vertP_no (pc := pc) (want := want) (fun e => v1 e.2.2))
        rw [hm] at v2
        have HM := Lib.hid hm
        clear hm v1
        have hw : (up = true ∧ pl - m < 0) ∨ (up = false ∧ (L.length : Int) ≤ pl + m) := by
          cases up
          · right; refine ⟨rfl, ?_⟩; simp only [vertT, Bool.false_eq_true, if_false] at v2; omega
          · left; refine ⟨rfl, ?_⟩; simp only [vertT, if_true] at v2; omega
        clear v2
        rcases hw with ⟨rfl, hw⟩ | ⟨rfl, hw⟩
        · go_enter Try.func39, Try.ntmps39
          go_wp2_with (go_at_call 57; refine (rmay_any _ _ L _ _ _ _ (by (repeat (first | assumption | refine LinesAt.ovr ?_ _ | refine LinesAt.alloc ?_ _ | refine LinesAt.drewN ?_ _ | refine LinesAt.drew ?_)))).mono ?_; rintro e w1 ⟨rfl, hbl⟩; obtain ⟨x, rfl⟩ := ovr_of_below hbl; clear hbl)
          (refine wp_region_ovr (by kernel_rfl) (by kernel_rfl) ?_; (repeat (go_big_quiet_step ((go_at_call 73; exact quiet_same (rcapped_at _ _ HM _))))); refine wpQuiet_nil ?_; rintro _ ⟨zq, rfl⟩)
          go_wp2
          (refine wp_region_ovr (by kernel_rfl) (by kernel_rfl) ?_; (repeat (go_big_quiet_step ((go_at_call 73; exact quiet_same (rcapped_at _ _ HM _))))); refine wpQuiet_nil ?_; rintro _ ⟨zq, rfl⟩)
          go_wp2_with (go_at_call 58; refine (rnone_any _).mono ?_; rintro e w1 ⟨rfl, hbl⟩; obtain ⟨x, rfl⟩ := ovr_of_below hbl; clear hbl)
          refine bodyPost_ret (v := movV noMov) (by simp [results, Try.results39, go_sem, noMov]) rfl ⟨by rw [HY.out], by (repeat (first | exact Below.refl _ _ | refine Below.alloc ?_ (by first | exact Nat.le_refl _ | (simp; done) | (simp; omega)) _ | refine below_ovr_of ?_ | refine drew_below ?_ _ | refine Below.drew ?_ | refine Below.setCell ?_ (by first | exact Nat.le_refl _ | (simp; done) | (simp; omega)) _ | assumption))⟩
        · go_enter Try.func39, Try.ntmps39
          go_wp2_with (go_at_call 57; refine (rmay_any _ _ L _ _ _ _ (by (repeat (first | assumption | refine LinesAt.ovr ?_ _ | refine LinesAt.alloc ?_ _ | refine LinesAt.drewN ?_ _ | refine LinesAt.drew ?_)))).mono ?_; rintro e w1 ⟨rfl, hbl⟩; obtain ⟨x, rfl⟩ := ovr_of_below hbl; clear hbl)
          (refine wp_region_ovr (by kernel_rfl) (by kernel_rfl) ?_; (repeat (go_big_quiet_step ((go_at_call 73; exact quiet_same (rcapped_at _ _ HM _))))); refine wpQuiet_nil ?_; rintro _ ⟨zq, rfl⟩)
          go_wp2_with (go_at_call 58; refine (rnone_any _).mono ?_; rintro e w1 ⟨rfl, hbl⟩; obtain ⟨x, rfl⟩ := ovr_of_below hbl; clear hbl)
          refine bodyPost_ret (v := movV noMov) (by simp [results, Try.results39, go_sem, noMov]) rfl ⟨by rw [HY.out], by (repeat (first | exact Below.refl _ _ | refine Below.alloc ?_ (by first | exact Nat.le_refl _ | (simp; done) | (simp; omega)) _ | refine below_ovr_of ?_ | refine drew_below ?_ _ | refine Below.drew ?_ | refine Below.setCell ?_ (by first | exact Nat.le_refl _ | (simp; done) | (simp; omega)) _ | assumption))⟩
    · have HP := Lib.hid (vertP_no (L := L) (pl := pl) (pc := pc) (want := want) (up := up) (fun e => h1 e.2.1))
      have h1' : decide (1 ≤ n) = false := decide_eq_false h1
      clear h1
      go_enter Try.func39, Try.ntmps39
      go_wp2_with (first | (go_at_call 57; refine (rmay_any _ _ L _ _ _ _ (by (repeat (first | assumption | refine LinesAt.ovr ?_ _ | refine LinesAt.alloc ?_ _ | refine LinesAt.drewN ?_ _ | refine LinesAt.drew ?_)))).mono ?_; rintro e w1 ⟨rfl, hbl⟩; obtain ⟨x, rfl⟩ := ovr_of_below hbl; clear hbl) | (go_at_call 58; refine (rnone_any _).mono ?_; rintro e w1 ⟨rfl, hbl⟩; obtain ⟨x, rfl⟩ := ovr_of_below hbl; clear hbl))
      refine bodyPost_ret (v := movV noMov) (by simp [results, Try.results39, go_sem, noMov]) rfl ⟨by rw [HP.out], by (repeat (first | exact Below.refl _ _ | refine Below.alloc ?_ (by first | exact Nat.le_refl _ | (simp; done) | (simp; omega)) _ | refine below_ovr_of ?_ | refine drew_below ?_ _ | refine Below.drew ?_ | refine Below.setCell ?_ (by first | exact Nat.le_refl _ | (simp; done) | (simp; omega)) _ | assumption))⟩

set_option maxHeartbeats 1000000 in
theorem rgoto_any (a : Option Addr) (cap : Nat) (L : List ByteArray) (pl pc n : Int) (w : World) (hL : LinesAt w a L) (hlen : L.length ≤ 1000000) :
    Calls Try.prog 46 #[.slice a L.length cap, .agg #[.int .i64 pl, .int .i64 pc], .int .i64 n] w fun e w' =>
      e = .returned (movV (gotoP L pl pc n)) ∧ Below w.heap.size w w' := by
  by_cases hc : plcB L pl pc = true ∧ 1 ≤ n
  · obtain ⟨hp, h1⟩ := hc
    obtain ⟨m, hm⟩ : ∃ m, min n 1073741824 = m := ⟨_, rfl⟩
    have m1 : 1 ≤ m := by omega
    have m2 : m ≤ 1073741824 := by omega
    have hy : gotoP L pl pc n = lineM L (m - 1) true := by
      rw [gotoP, if_pos ⟨hp, h1⟩]
      by_cases h : n ≤ 1073741824
      · rw [show m = n from by omega]
      · rw [lineM_no (by omega), lineM_no (by omega)]
    obtain ⟨⟨⟨r1, r2, r3, r4, r5⟩, ok⟩, hr⟩ : ∃ r, lineM L (m - 1) true = r := ⟨_, rfl⟩
    have HR := Lib.hid hr
    have HY := Lib.hid hy
    have HM := Lib.hid hm
    clear hr hy hm
    go_enter Try.func46, Try.ntmps46
    go_wp2_with (first | (go_at_call 57; refine (rmay_any _ _ L _ _ _ _ (by (repeat (first | assumption | refine LinesAt.ovr ?_ _ | refine LinesAt.alloc ?_ _ | refine LinesAt.drewN ?_ _ | refine LinesAt.drew ?_)))).mono ?_; rintro e w1 ⟨rfl, hbl⟩; obtain ⟨x, rfl⟩ := ovr_of_below hbl; clear hbl) | (go_at_call 73; refine (rcapped_at _ _ HM _).mono ?_; rintro e w1 ⟨rfl, rfl⟩) | (go_at_call 59; refine (rline_any _ _ L _ _ _ (by (repeat (first | assumption | refine LinesAt.ovr ?_ _ | refine LinesAt.alloc ?_ _ | refine LinesAt.drewN ?_ _ | refine LinesAt.drew ?_)))).mono ?_; rw [HR.out]; rintro e w1 ⟨rfl, hbl⟩; obtain ⟨x, rfl⟩ := ovr_of_below hbl; clear hbl))
    refine bodyPost_ret (v := movV ((r1, r2, r3, r4, r5), ok)) (by simp [results, Try.results46, go_sem]) rfl ⟨by rw [HY.out, HR.out], by (repeat (first | exact Below.refl _ _ | refine Below.alloc ?_ (by first | exact Nat.le_refl _ | (simp; done) | (simp; omega)) _ | refine below_ovr_of ?_ | refine drew_below ?_ _ | refine Below.drew ?_ | refine Below.setCell ?_ (by first | exact Nat.le_refl _ | (simp; done) | (simp; omega)) _ | assumption))⟩
  · have HP : Hid (gotoP L pl pc n = noMov) := Lib.hid (by rw [gotoP, if_neg hc])
    have hb : (plcB L pl pc && decide (1 ≤ n)) = false := by rw [Bool.eq_false_iff]; intro h; simp at h; exact hc h
    obtain ⟨q, hq⟩ : ∃ q, (plcB L pl pc && decide (1 ≤ n)) = q := ⟨_, rfl⟩
    rw [hq] at hb
    subst hb
    have HQ := Lib.hid hq
    clear hq hc
    go_enter Try.func46, Try.ntmps46
    go_wp2_with (first | (go_at_call 57; refine (rmay_any _ _ L _ _ _ _ (by (repeat (first | assumption | refine LinesAt.ovr ?_ _ | refine LinesAt.alloc ?_ _ | refine LinesAt.drewN ?_ _ | refine LinesAt.drew ?_)))).mono ?_; rw [HQ.out]; rintro e w1 ⟨rfl, hbl⟩; obtain ⟨x, rfl⟩ := ovr_of_below hbl; clear hbl) | (go_at_call 58; refine (rnone_any _).mono ?_; rintro e w1 ⟨rfl, hbl⟩; obtain ⟨x, rfl⟩ := ovr_of_below hbl; clear hbl))
    refine bodyPost_ret (v := movV noMov) (by simp [results, Try.results46, go_sem, noMov]) rfl ⟨by rw [HP.out], by (repeat (first | exact Below.refl _ _ | refine Below.alloc ?_ (by first | exact Nat.le_refl _ | (simp; done) | (simp; omega)) _ | refine below_ovr_of ?_ | refine drew_below ?_ _ | refine Below.drew ?_ | refine Below.setCell ?_ (by first | exact Nat.le_refl _ | (simp; done) | (simp; omega)) _ | assumption))⟩
end Go.Proofs.Ytmafieomlhpdeaa
