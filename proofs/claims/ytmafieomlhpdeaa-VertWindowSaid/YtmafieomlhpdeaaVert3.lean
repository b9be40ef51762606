/- The contract of vert.Screen. Conditions: none beyond what it says. -/
import Derived.Test.YtmafieomlhpdeaaVert2
namespace Go.Proofs.Ytmafieomlhpdeaa
open Go.RowKit

theorem screenT_72 (L : List ByteArray) (top n : Int) : screenT L top 72 n = max top 0 + min n (min 10 (L.length - max top 0)) - 1 := by simp [screenT, shownN]
theorem screenT_76 (L : List ByteArray) (top n : Int) : screenT L top 76 n = max top 0 + (min 10 (L.length - max top 0) - min n (min 10 (L.length - max top 0))) := by simp [screenT, shownN]
theorem screenT_77 (L : List ByteArray) (top n : Int) : screenT L top 77 n = max top 0 + (min 10 (L.length - max top 0) - 1) / 2 := by simp [screenT, shownN]

set_option maxHeartbeats 2000000 in
theorem vscreen_any (a : Option Addr) (cap : Nat) (L : List ByteArray) (pl pc top key n : Int) (w : World) (hL : LinesAt w a L) (hn2 : n ≤ 9223372036854775807) :
    Calls Try.prog 18 #[.slice a L.length cap, .agg #[.int .i64 pl, .int .i64 pc], .int .i64 top, .int .u8 key, .int .i64 n] w fun e w' =>
      e = .returned (movV (screenP L pl pc top key n)) ∧ Below w.heap.size w w' := by
  have hn := hL.2.1
  by_cases hc : plcB L pl pc = true ∧ 1 ≤ n ∧ max top 0 < L.length
  · obtain ⟨hp, h1, h2⟩ := hc
    by_cases k72 : key = 72
    · subst k72
      have HP : Hid (screenP L pl pc top 72 n = firstM L (screenT L top 72 n) true) := Lib.hid (by rw [screenP, if_pos ⟨hp, h1, h2, by simp⟩])
      have HT := Lib.hid (screenT_72 L top n)
      rcases (by omega : top < 0 ∨ 0 ≤ top) with t0 | t0
      · have h2' : (0 : Int) < L.length := by omega
        have hne : ¬ L = [] := fun h => by rw [h] at h2'; simp at h2'
        clear h2
        go_enter Try.func18, Try.ntmps18
        go_wp2_with (first | (go_at_call 55; refine (place_any _ _ L _ _ _ (by (repeat (first | assumption | refine LinesAt.ovr ?_ _ | refine LinesAt.alloc ?_ _ | refine LinesAt.drewN ?_ _ | refine LinesAt.drew ?_)))).mono ?_; rintro e w1 ⟨rfl, hbl⟩; obtain ⟨x, rfl⟩ := ovr_of_below hbl; clear hbl) | (go_at_call 56; refine (vfirst_any _ _ L _ _ (by (repeat (first | assumption | refine LinesAt.ovr ?_ _ | refine LinesAt.alloc ?_ _ | refine LinesAt.drewN ?_ _ | refine LinesAt.drew ?_))) (by omega) (by omega)).mono ?_; rintro e w1 ⟨rfl, hbl⟩; obtain ⟨x, rfl⟩ := ovr_of_below hbl; clear hbl))
        all_goals (simp [bodyPost, results, Try.results18, go_sem])
        all_goals (rw [HP.out]; have e := HT.out; refine ⟨?_, by (repeat (first | exact Below.refl _ _ | refine Below.alloc ?_ (by first | exact Nat.le_refl _ | (simp; done) | (simp; omega)) _ | refine below_ovr_of ?_ | refine drew_below ?_ _ | refine Below.drew ?_ | refine Below.setCell ?_ (by first | exact Nat.le_refl _ | (simp; done) | (simp; omega)) _ | assumption))⟩; simp only [firstM, and_true]; refine ⟨by omega, congrArg (fsI L) (by omega)⟩)
      · have h2' : top < L.length := by omega
        clear h2
        go_enter Try.func18, Try.ntmps18
        go_wp2_with (first | (go_at_call 55; refine (place_any _ _ L _ _ _ (by (repeat (first | assumption | refine LinesAt.ovr ?_ _ | refine LinesAt.alloc ?_ _ | refine LinesAt.drewN ?_ _ | refine LinesAt.drew ?_)))).mono ?_; rintro e w1 ⟨rfl, hbl⟩; obtain ⟨x, rfl⟩ := ovr_of_below hbl; clear hbl) | (go_at_call 56; refine (vfirst_any _ _ L _ _ (by (repeat (first | assumption | refine LinesAt.ovr ?_ _ | refine LinesAt.alloc ?_ _ | refine LinesAt.drewN ?_ _ | refine LinesAt.drew ?_))) (by omega) (by omega)).mono ?_; rintro e w1 ⟨rfl, hbl⟩; obtain ⟨x, rfl⟩ := ovr_of_below hbl; clear hbl))
        all_goals (simp [bodyPost, results, Try.results18, go_sem])
        all_goals (rw [HP.out]; have e := HT.out; refine ⟨?_, by (repeat (first | exact Below.refl _ _ | refine Below.alloc ?_ (by first | exact Nat.le_refl _ | (simp; done) | (simp; omega)) _ | refine below_ovr_of ?_ | refine drew_below ?_ _ | refine Below.drew ?_ | refine Below.setCell ?_ (by first | exact Nat.le_refl _ | (simp; done) | (simp; omega)) _ | assumption))⟩; simp only [firstM, and_true]; refine ⟨by omega, congrArg (fsI L) (by omega)⟩)
    by_cases k76 : key = 76
    · subst k76
      have HP : Hid (screenP L pl pc top 76 n = firstM L (screenT L top 76 n) true) := Lib.hid (by rw [screenP, if_pos ⟨hp, h1, h2, by simp⟩])
      have HT := Lib.hid (screenT_76 L top n)
      rcases (by omega : top < 0 ∨ 0 ≤ top) with t0 | t0
      · have h2' : (0 : Int) < L.length := by omega
        have hne : ¬ L = [] := fun h => by rw [h] at h2'; simp at h2'
        clear h2
        go_enter Try.func18, Try.ntmps18
        go_wp2_with (first | (go_at_call 55; refine (place_any _ _ L _ _ _ (by (repeat (first | assumption | refine LinesAt.ovr ?_ _ | refine LinesAt.alloc ?_ _ | refine LinesAt.drewN ?_ _ | refine LinesAt.drew ?_)))).mono ?_; rintro e w1 ⟨rfl, hbl⟩; obtain ⟨x, rfl⟩ := ovr_of_below hbl; clear hbl) | (go_at_call 56; refine (vfirst_any _ _ L _ _ (by (repeat (first | assumption | refine LinesAt.ovr ?_ _ | refine LinesAt.alloc ?_ _ | refine LinesAt.drewN ?_ _ | refine LinesAt.drew ?_))) (by omega) (by omega)).mono ?_; rintro e w1 ⟨rfl, hbl⟩; obtain ⟨x, rfl⟩ := ovr_of_below hbl; clear hbl))
        all_goals (simp [bodyPost, results, Try.results18, go_sem])
        all_goals (rw [HP.out]; have e := HT.out; refine ⟨?_, by (repeat (first | exact Below.refl _ _ | refine Below.alloc ?_ (by first | exact Nat.le_refl _ | (simp; done) | (simp; omega)) _ | refine below_ovr_of ?_ | refine drew_below ?_ _ | refine Below.drew ?_ | refine Below.setCell ?_ (by first | exact Nat.le_refl _ | (simp; done) | (simp; omega)) _ | assumption))⟩; simp only [firstM, and_true]; refine ⟨by omega, congrArg (fsI L) (by omega)⟩)
      · have h2' : top < L.length := by omega
        clear h2
        go_enter Try.func18, Try.ntmps18
        go_wp2_with (first | (go_at_call 55; refine (place_any _ _ L _ _ _ (by (repeat (first | assumption | refine LinesAt.ovr ?_ _ | refine LinesAt.alloc ?_ _ | refine LinesAt.drewN ?_ _ | refine LinesAt.drew ?_)))).mono ?_; rintro e w1 ⟨rfl, hbl⟩; obtain ⟨x, rfl⟩ := ovr_of_below hbl; clear hbl) | (go_at_call 56; refine (vfirst_any _ _ L _ _ (by (repeat (first | assumption | refine LinesAt.ovr ?_ _ | refine LinesAt.alloc ?_ _ | refine LinesAt.drewN ?_ _ | refine LinesAt.drew ?_))) (by omega) (by omega)).mono ?_; rintro e w1 ⟨rfl, hbl⟩; obtain ⟨x, rfl⟩ := ovr_of_below hbl; clear hbl))
        all_goals (simp [bodyPost, results, Try.results18, go_sem])
        all_goals (rw [HP.out]; have e := HT.out; refine ⟨?_, by (repeat (first | exact Below.refl _ _ | refine Below.alloc ?_ (by first | exact Nat.le_refl _ | (simp; done) | (simp; omega)) _ | refine below_ovr_of ?_ | refine drew_below ?_ _ | refine Below.drew ?_ | refine Below.setCell ?_ (by first | exact Nat.le_refl _ | (simp; done) | (simp; omega)) _ | assumption))⟩; simp only [firstM, and_true]; refine ⟨by omega, congrArg (fsI L) (by omega)⟩)
    by_cases k77 : key = 77
    · subst k77
      have HP : Hid (screenP L pl pc top 77 n = firstM L (screenT L top 77 n) true) := Lib.hid (by rw [screenP, if_pos ⟨hp, h1, h2, by simp⟩])
      have HT := Lib.hid (screenT_77 L top n)
      rcases (by omega : top < 0 ∨ 0 ≤ top) with t0 | t0
      · have h2' : (0 : Int) < L.length := by omega
        have hne : ¬ L = [] := fun h => by rw [h] at h2'; simp at h2'
        clear h2
        go_enter Try.func18, Try.ntmps18
        go_wp2_with (first | (go_at_call 55; refine (place_any _ _ L _ _ _ (by (repeat (first | assumption | refine LinesAt.ovr ?_ _ | refine LinesAt.alloc ?_ _ | refine LinesAt.drewN ?_ _ | refine LinesAt.drew ?_)))).mono ?_; rintro e w1 ⟨rfl, hbl⟩; obtain ⟨x, rfl⟩ := ovr_of_below hbl; clear hbl) | (go_at_call 56; refine (vfirst_any _ _ L _ _ (by (repeat (first | assumption | refine LinesAt.ovr ?_ _ | refine LinesAt.alloc ?_ _ | refine LinesAt.drewN ?_ _ | refine LinesAt.drew ?_))) (by omega) (by omega)).mono ?_; rintro e w1 ⟨rfl, hbl⟩; obtain ⟨x, rfl⟩ := ovr_of_below hbl; clear hbl))
        all_goals (simp [bodyPost, results, Try.results18, go_sem])
        all_goals (rw [HP.out]; have e := HT.out; refine ⟨?_, by (repeat (first | exact Below.refl _ _ | refine Below.alloc ?_ (by first | exact Nat.le_refl _ | (simp; done) | (simp; omega)) _ | refine below_ovr_of ?_ | refine drew_below ?_ _ | refine Below.drew ?_ | refine Below.setCell ?_ (by first | exact Nat.le_refl _ | (simp; done) | (simp; omega)) _ | assumption))⟩; simp only [firstM, and_true]; refine ⟨by omega, congrArg (fsI L) (by omega)⟩)
      · have h2' : top < L.length := by omega
        clear h2
        go_enter Try.func18, Try.ntmps18
        go_wp2_with (first | (go_at_call 55; refine (place_any _ _ L _ _ _ (by (repeat (first | assumption | refine LinesAt.ovr ?_ _ | refine LinesAt.alloc ?_ _ | refine LinesAt.drewN ?_ _ | refine LinesAt.drew ?_)))).mono ?_; rintro e w1 ⟨rfl, hbl⟩; obtain ⟨x, rfl⟩ := ovr_of_below hbl; clear hbl) | (go_at_call 56; refine (vfirst_any _ _ L _ _ (by (repeat (first | assumption | refine LinesAt.ovr ?_ _ | refine LinesAt.alloc ?_ _ | refine LinesAt.drewN ?_ _ | refine LinesAt.drew ?_))) (by omega) (by omega)).mono ?_; rintro e w1 ⟨rfl, hbl⟩; obtain ⟨x, rfl⟩ := ovr_of_below hbl; clear hbl))
        all_goals (simp [bodyPost, results, Try.results18, go_sem])
        all_goals (rw [HP.out]; have e := HT.out; refine ⟨?_, by (repeat (first | exact Below.refl _ _ | refine Below.alloc ?_ (by first | exact Nat.le_refl _ | (simp; done) | (simp; omega)) _ | refine below_ovr_of ?_ | refine drew_below ?_ _ | refine Below.drew ?_ | refine Below.setCell ?_ (by first | exact Nat.le_refl _ | (simp; done) | (simp; omega)) _ | assumption))⟩; simp only [firstM, and_true]; refine ⟨by omega, congrArg (fsI L) (by omega)⟩)
    have HP : Hid (screenP L pl pc top key n = noMov) := Lib.hid (by rw [screenP, if_neg]; rintro ⟨_, _, _, h⟩; exact h.elim k72 (fun h => h.elim k76 k77))
    have b1 : (key == 72) = false := beq_eq_false_iff_ne.2 k72
    have b2 : (key == 76) = false := beq_eq_false_iff_ne.2 k76
    have b3 : (key == 77) = false := beq_eq_false_iff_ne.2 k77
    clear k72 k76 k77
    rcases (by omega : top < 0 ∨ 0 ≤ top) with t0 | t0
    · have h2' : (0 : Int) < L.length := by omega
      clear h2
      go_enter Try.func18, Try.ntmps18
      go_wp2_with (go_at_call 55; refine (place_any _ _ L _ _ _ (by (repeat (first | assumption | refine LinesAt.ovr ?_ _ | refine LinesAt.alloc ?_ _ | refine LinesAt.drewN ?_ _ | refine LinesAt.drew ?_)))).mono ?_; rintro e w1 ⟨rfl, hbl⟩; obtain ⟨x, rfl⟩ := ovr_of_below hbl; clear hbl)
      all_goals (refine bodyPost_ret (v := movV noMov) (by simp [results, Try.results18, go_sem, noMov]) rfl ⟨by rw [HP.out], by (repeat (first | exact Below.refl _ _ | refine Below.alloc ?_ (by first | exact Nat.le_refl _ | (simp; done) | (simp; omega)) _ | refine below_ovr_of ?_ | refine drew_below ?_ _ | refine Below.drew ?_ | refine Below.setCell ?_ (by first | exact Nat.le_refl _ | (simp; done) | (simp; omega)) _ | assumption))⟩)
    · have h2' : top < L.length := by omega
      clear h2
      go_enter Try.func18, Try.ntmps18
      go_wp2_with (go_at_call 55; refine (place_any _ _ L _ _ _ (by (repeat (first | assumption | refine LinesAt.ovr ?_ _ | refine LinesAt.alloc ?_ _ | refine LinesAt.drewN ?_ _ | refine LinesAt.drew ?_)))).mono ?_; rintro e w1 ⟨rfl, hbl⟩; obtain ⟨x, rfl⟩ := ovr_of_below hbl; clear hbl)
      all_goals (refine bodyPost_ret (v := movV noMov) (by simp [results, Try.results18, go_sem, noMov]) rfl ⟨by rw [HP.out], by (repeat (first | exact Below.refl _ _ | refine Below.alloc ?_ (by first | exact Nat.le_refl _ | (simp; done) | (simp; omega)) _ | refine below_ovr_of ?_ | refine drew_below ?_ _ | refine Below.drew ?_ | refine Below.setCell ?_ (by first | exact Nat.le_refl _ | (simp; done) | (simp; omega)) _ | assumption))⟩)
  · have HP : Hid (screenP L pl pc top key n = noMov) := Lib.hid (by rw [screenP, if_neg (fun e => hc ⟨e.1, e.2.1, e.2.2.1⟩)])
    by_cases h1 : 1 ≤ n
    · cases hp : plcB L pl pc with
      | false =>
        clear hc
        rcases (by omega : top < 0 ∨ 0 ≤ top) with t0 | t0
        all_goals (
          go_enter Try.func18, Try.ntmps18
          go_wp2_with (go_at_call 55; refine (place_any _ _ L _ _ _ (by (repeat (first | assumption | refine LinesAt.ovr ?_ _ | refine LinesAt.alloc ?_ _ | refine LinesAt.drewN ?_ _ | refine LinesAt.drew ?_)))).mono ?_; rintro e w1 ⟨rfl, hbl⟩; obtain ⟨x, rfl⟩ := ovr_of_below hbl; clear hbl)
          all_goals (refine bodyPost_ret (v := movV noMov) (by simp [results, Try.results18, go_sem, noMov]) rfl ⟨by rw [HP.out], by (repeat (first | exact Below.refl _ _ | refine Below.alloc ?_ (by first | exact Nat.le_refl _ | (simp; done) | (simp; omega)) _ | refine below_ovr_of ?_ | refine drew_below ?_ _ | refine Below.drew ?_ | refine Below.setCell ?_ (by first | exact Nat.le_refl _ | (simp; done) | (simp; omega)) _ | assumption))⟩))
      | true =>
        have h2 : ¬ max top 0 < L.length := fun h => hc ⟨hp, h1, h⟩
        clear hc
        have q := plcB_spec hp
        have h3 : (L.length : Int) ≤ top ∧ 0 ≤ top := by omega
        obtain ⟨h3, h4⟩ := h3
        clear h2 q
        go_enter Try.func18, Try.ntmps18
        go_wp2_with (go_at_call 55; refine (place_any _ _ L _ _ _ (by (repeat (first | assumption | refine LinesAt.ovr ?_ _ | refine LinesAt.alloc ?_ _ | refine LinesAt.drewN ?_ _ | refine LinesAt.drew ?_)))).mono ?_; rintro e w1 ⟨rfl, hbl⟩; obtain ⟨x, rfl⟩ := ovr_of_below hbl; clear hbl)
        all_goals (refine bodyPost_ret (v := movV noMov) (by simp [results, Try.results18, go_sem, noMov]) rfl ⟨by rw [HP.out], by (repeat (first | exact Below.refl _ _ | refine Below.alloc ?_ (by first | exact Nat.le_refl _ | (simp; done) | (simp; omega)) _ | refine below_ovr_of ?_ | refine drew_below ?_ _ | refine Below.drew ?_ | refine Below.setCell ?_ (by first | exact Nat.le_refl _ | (simp; done) | (simp; omega)) _ | assumption))⟩)
    · clear hc
      have h1' : n < 1 := by omega
      clear h1
      rcases (by omega : top < 0 ∨ 0 ≤ top) with t0 | t0
      all_goals (
        go_enter Try.func18, Try.ntmps18
        go_wp2_with (go_at_call 55; refine (place_any _ _ L _ _ _ (by (repeat (first | assumption | refine LinesAt.ovr ?_ _ | refine LinesAt.alloc ?_ _ | refine LinesAt.drewN ?_ _ | refine LinesAt.drew ?_)))).mono ?_; rintro e w1 ⟨rfl, hbl⟩; obtain ⟨x, rfl⟩ := ovr_of_below hbl; clear hbl)
        all_goals (refine bodyPost_ret (v := movV noMov) (by simp [results, Try.results18, go_sem, noMov]) rfl ⟨by rw [HP.out], by (repeat (first | exact Below.refl _ _ | refine Below.alloc ?_ (by first | exact Nat.le_refl _ | (simp; done) | (simp; omega)) _ | refine below_ovr_of ?_ | refine drew_below ?_ _ | refine Below.drew ?_ | refine Below.setCell ?_ (by first | exact Nat.le_refl _ | (simp; done) | (simp; omega)) _ | assumption))⟩))
end Go.Proofs.Ytmafieomlhpdeaa
