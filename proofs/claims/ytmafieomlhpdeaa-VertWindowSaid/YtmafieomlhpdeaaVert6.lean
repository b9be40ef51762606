/- The contract of the reference's Screen. Conditions: none beyond what it says. -/
import Derived.Test.YtmafieomlhpdeaaVert4
namespace Go.Proofs.Ytmafieomlhpdeaa
open Go.RowKit

theorem rscreenT_72 (L : List ByteArray) (top n : Int) : screenT L top 72 n = max top 0 + min n (min 10 (L.length - max top 0)) - 1 := by simp [screenT, shownN]
theorem rscreenT_76 (L : List ByteArray) (top n : Int) : screenT L top 76 n = max top 0 + (min 10 (L.length - max top 0) - min n (min 10 (L.length - max top 0))) := by simp [screenT, shownN]
theorem rscreenT_77 (L : List ByteArray) (top n : Int) : screenT L top 77 n = max top 0 + (min 10 (L.length - max top 0) - 1) / 2 := by simp [screenT, shownN]

theorem rline_at (a : Option Addr) (cap : Nat) (L : List ByteArray) (t T : Int) (j : Bool) (w : World) (hL : LinesAt w a L) (e : t = T) :
    Calls Try.prog 59 #[.slice a L.length cap, .int .i64 t, .bool j] w fun e w' => e = .returned (movV (lineM L T j)) ∧ Below w.heap.size w w' := e ▸ rline_any a cap L t j w hL

set_option maxHeartbeats 2000000 in
theorem rscreen_any (a : Option Addr) (cap : Nat) (L : List ByteArray) (pl pc top key n : Int) (w : World) (hL : LinesAt w a L) (hn2 : n ≤ 9223372036854775807) :
    Calls Try.prog 19 #[.slice a L.length cap, .agg #[.int .i64 pl, .int .i64 pc], .int .i64 top, .int .u8 key, .int .i64 n] w fun e w' =>
      e = .returned (movV (screenP L pl pc top key n)) ∧ Below w.heap.size w w' := by
  have hn := hL.2.1
  cases hp : plcB L pl pc with
  | false =>
    have HP : Hid (screenP L pl pc top key n = noMov) := Lib.hid (by rw [screenP, if_neg (fun e => by rw [hp] at e; simp at e)])
    rcases (by omega : top < 0 ∨ 0 ≤ top) with t0 | t0
    all_goals (
      go_enter Try.func19, Try.ntmps19
      go_wp2_with (first | (go_at_call 57; refine (rmay_any _ _ L _ _ _ _ (by (repeat (first | assumption | refine LinesAt.ovr ?_ _ | refine LinesAt.alloc ?_ _ | refine LinesAt.drewN ?_ _ | refine LinesAt.drew ?_)))).mono ?_; rintro e w1 ⟨rfl, hbl⟩; obtain ⟨x, rfl⟩ := ovr_of_below hbl; clear hbl) | (go_at_call 58; refine (rnone_any _).mono ?_; rintro e w1 ⟨rfl, hbl⟩; obtain ⟨x, rfl⟩ := ovr_of_below hbl; clear hbl))
      refine bodyPost_ret (v := movV noMov) (by simp [results, Try.results19, go_sem, noMov]) rfl ⟨by rw [HP.out], by (repeat (first | exact Below.refl _ _ | refine Below.alloc ?_ (by first | exact Nat.le_refl _ | (simp; done) | (simp; omega)) _ | refine below_ovr_of ?_ | refine drew_below ?_ _ | refine Below.drew ?_ | refine Below.setCell ?_ (by first | exact Nat.le_refl _ | (simp; done) | (simp; omega)) _ | assumption))⟩)
  | true =>
    have hne : ¬ L = [] := fun h => by have q := plcB_spec hp; rw [h] at q; simp at q; omega
    have hpos : (0 : Int) < L.length := by have q := plcB_spec hp; omega
    by_cases h1 : 1 ≤ n
    · by_cases h2 : max top 0 < L.length
      · skip
        by_cases k72 : key = 72
        · subst k72
          have HP : Hid (screenP L pl pc top 72 n = firstM L (screenT L top 72 n) true) := Lib.hid (by rw [screenP, if_pos ⟨hp, h1, h2, by simp⟩])
          have ht := screenT_in (key := 72) h1 h2
          have hT := rscreenT_72 L top n
          obtain ⟨T, eT⟩ : ∃ T, screenT L top 72 n = T := ⟨_, rfl⟩
          rw [eT] at ht hT HP
          have HR := Lib.hid (lineM_yes (j := true) ht)
          have HT := Lib.hid hT
          obtain ⟨ht0, ht1⟩ := ht
          rcases (by omega : top < 0 ∨ (0 ≤ top ∧ top < L.length)) with t0 | ⟨t0, t1⟩
          all_goals (
            clear h2 hT eT
            go_enter Try.func19, Try.ntmps19
            go_wp2_with (first | (go_at_call 57; refine (rmay_any _ _ L _ _ _ _ (by (repeat (first | assumption | refine LinesAt.ovr ?_ _ | refine LinesAt.alloc ?_ _ | refine LinesAt.drewN ?_ _ | refine LinesAt.drew ?_)))).mono ?_; rintro e w1 ⟨rfl, hbl⟩; obtain ⟨x, rfl⟩ := ovr_of_below hbl; clear hbl) | (go_at_call 59; refine (rline_at _ _ L _ T _ _ (by (repeat (first | assumption | refine LinesAt.ovr ?_ _ | refine LinesAt.alloc ?_ _ | refine LinesAt.drewN ?_ _ | refine LinesAt.drew ?_))) (by have e := HT.out; omega)).mono ?_; rw [HR.out, firstM]; rintro e w1 ⟨rfl, hbl⟩; obtain ⟨x, rfl⟩ := ovr_of_below hbl; clear hbl))
            all_goals (refine bodyPost_ret (v := movV (firstM L T true)) (by simp [results, Try.results19, go_sem, firstM]) rfl ⟨by rw [HP.out], by (repeat (first | exact Below.refl _ _ | refine Below.alloc ?_ (by first | exact Nat.le_refl _ | (simp; done) | (simp; omega)) _ | refine below_ovr_of ?_ | refine drew_below ?_ _ | refine Below.drew ?_ | refine Below.setCell ?_ (by first | exact Nat.le_refl _ | (simp; done) | (simp; omega)) _ | assumption))⟩))
        by_cases k76 : key = 76
        · subst k76
          have HP : Hid (screenP L pl pc top 76 n = firstM L (screenT L top 76 n) true) := Lib.hid (by rw [screenP, if_pos ⟨hp, h1, h2, by simp⟩])
          have ht := screenT_in (key := 76) h1 h2
          have hT := rscreenT_76 L top n
          obtain ⟨T, eT⟩ : ∃ T, screenT L top 76 n = T := ⟨_, rfl⟩
          rw [eT] at ht hT HP
          have HR := Lib.hid (lineM_yes (j := true) ht)
          have HT := Lib.hid hT
          obtain ⟨ht0, ht1⟩ := ht
          rcases (by omega : top < 0 ∨ (0 ≤ top ∧ top < L.length)) with t0 | ⟨t0, t1⟩
          all_goals (
            clear h2 hT eT
            go_enter Try.func19, Try.ntmps19
            go_wp2_with (first | (go_at_call 57; refine (rmay_any _ _ L _ _ _ _ (by (repeat (first | assumption | refine LinesAt.ovr ?_ _ | refine LinesAt.alloc ?_ _ | refine LinesAt.drewN ?_ _ | refine LinesAt.drew ?_)))).mono ?_; rintro e w1 ⟨rfl, hbl⟩; obtain ⟨x, rfl⟩ := ovr_of_below hbl; clear hbl) | (go_at_call 59; refine (rline_at _ _ L _ T _ _ (by (repeat (first | assumption | refine LinesAt.ovr ?_ _ | refine LinesAt.alloc ?_ _ | refine LinesAt.drewN ?_ _ | refine LinesAt.drew ?_))) (by have e := HT.out; omega)).mono ?_; rw [HR.out, firstM]; rintro e w1 ⟨rfl, hbl⟩; obtain ⟨x, rfl⟩ := ovr_of_below hbl; clear hbl))
            all_goals (refine bodyPost_ret (v := movV (firstM L T true)) (by simp [results, Try.results19, go_sem, firstM]) rfl ⟨by rw [HP.out], by (repeat (first | exact Below.refl _ _ | refine Below.alloc ?_ (by first | exact Nat.le_refl _ | (simp; done) | (simp; omega)) _ | refine below_ovr_of ?_ | refine drew_below ?_ _ | refine Below.drew ?_ | refine Below.setCell ?_ (by first | exact Nat.le_refl _ | (simp; done) | (simp; omega)) _ | assumption))⟩))
        by_cases k77 : key = 77
        · subst k77
          have HP : Hid (screenP L pl pc top 77 n = firstM L (screenT L top 77 n) true) := Lib.hid (by rw [screenP, if_pos ⟨hp, h1, h2, by simp⟩])
          have ht := screenT_in (key := 77) h1 h2
          have hT := rscreenT_77 L top n
          obtain ⟨T, eT⟩ : ∃ T, screenT L top 77 n = T := ⟨_, rfl⟩
          rw [eT] at ht hT HP
          have HR := Lib.hid (lineM_yes (j := true) ht)
          have HT := Lib.hid hT
          obtain ⟨ht0, ht1⟩ := ht
          rcases (by omega : top < 0 ∨ (0 ≤ top ∧ top < L.length)) with t0 | ⟨t0, t1⟩
          all_goals (
            clear h2 hT eT
            go_enter Try.func19, Try.ntmps19
            go_wp2_with (first | (go_at_call 57; refine (rmay_any _ _ L _ _ _ _ (by (repeat (first | assumption | refine LinesAt.ovr ?_ _ | refine LinesAt.alloc ?_ _ | refine LinesAt.drewN ?_ _ | refine LinesAt.drew ?_)))).mono ?_; rintro e w1 ⟨rfl, hbl⟩; obtain ⟨x, rfl⟩ := ovr_of_below hbl; clear hbl) | (go_at_call 59; refine (rline_at _ _ L _ T _ _ (by (repeat (first | assumption | refine LinesAt.ovr ?_ _ | refine LinesAt.alloc ?_ _ | refine LinesAt.drewN ?_ _ | refine LinesAt.drew ?_))) (by have e := HT.out; omega)).mono ?_; rw [HR.out, firstM]; rintro e w1 ⟨rfl, hbl⟩; obtain ⟨x, rfl⟩ := ovr_of_below hbl; clear hbl))
            all_goals (refine bodyPost_ret (v := movV (firstM L T true)) (by simp [results, Try.results19, go_sem, firstM]) rfl ⟨by rw [HP.out], by (repeat (first | exact Below.refl _ _ | refine Below.alloc ?_ (by first | exact Nat.le_refl _ | (simp; done) | (simp; omega)) _ | refine below_ovr_of ?_ | refine drew_below ?_ _ | refine Below.drew ?_ | refine Below.setCell ?_ (by first | exact Nat.le_refl _ | (simp; done) | (simp; omega)) _ | assumption))⟩))
        have HP : Hid (screenP L pl pc top key n = noMov) := Lib.hid (by rw [screenP, if_neg]; rintro ⟨_, _, _, h⟩; exact h.elim k72 (fun h => h.elim k76 k77))
        have b1 : (key == 72) = false := beq_eq_false_iff_ne.2 k72
        have b2 : (key == 76) = false := beq_eq_false_iff_ne.2 k76
        have b3 : (key == 77) = false := beq_eq_false_iff_ne.2 k77
        clear k72 k76 k77
        rcases (by omega : top < 0 ∨ (0 ≤ top ∧ top < L.length)) with t0 | ⟨t0, t1⟩
        all_goals (
          clear h2
          go_enter Try.func19, Try.ntmps19
          go_wp2_with (first | (go_at_call 57; refine (rmay_any _ _ L _ _ _ _ (by (repeat (first | assumption | refine LinesAt.ovr ?_ _ | refine LinesAt.alloc ?_ _ | refine LinesAt.drewN ?_ _ | refine LinesAt.drew ?_)))).mono ?_; rintro e w1 ⟨rfl, hbl⟩; obtain ⟨x, rfl⟩ := ovr_of_below hbl; clear hbl) | (go_at_call 58; refine (rnone_any _).mono ?_; rintro e w1 ⟨rfl, hbl⟩; obtain ⟨x, rfl⟩ := ovr_of_below hbl; clear hbl))
          all_goals (refine bodyPost_ret (v := movV noMov) (by simp [results, Try.results19, go_sem, noMov]) rfl ⟨by rw [HP.out], by (repeat (first | exact Below.refl _ _ | refine Below.alloc ?_ (by first | exact Nat.le_refl _ | (simp; done) | (simp; omega)) _ | refine below_ovr_of ?_ | refine drew_below ?_ _ | refine Below.drew ?_ | refine Below.setCell ?_ (by first | exact Nat.le_refl _ | (simp; done) | (simp; omega)) _ | assumption))⟩))
      · have HP : Hid (screenP L pl pc top key n = noMov) := Lib.hid (by rw [screenP, if_neg (fun e => h2 e.2.2.1)])
        have t0 : (L.length : Int) ≤ top := by omega
        have t1 : 0 ≤ top := by omega
        clear h2
        go_enter Try.func19, Try.ntmps19
        go_wp2_with (first | (go_at_call 57; refine (rmay_any _ _ L _ _ _ _ (by (repeat (first | assumption | refine LinesAt.ovr ?_ _ | refine LinesAt.alloc ?_ _ | refine LinesAt.drewN ?_ _ | refine LinesAt.drew ?_)))).mono ?_; rintro e w1 ⟨rfl, hbl⟩; obtain ⟨x, rfl⟩ := ovr_of_below hbl; clear hbl) | (go_at_call 58; refine (rnone_any _).mono ?_; rintro e w1 ⟨rfl, hbl⟩; obtain ⟨x, rfl⟩ := ovr_of_below hbl; clear hbl))
        refine bodyPost_ret (v := movV noMov) (by simp [results, Try.results19, go_sem, noMov]) rfl ⟨by rw [HP.out], by (repeat (first | exact Below.refl _ _ | refine Below.alloc ?_ (by first | exact Nat.le_refl _ | (simp; done) | (simp; omega)) _ | refine below_ovr_of ?_ | refine drew_below ?_ _ | refine Below.drew ?_ | refine Below.setCell ?_ (by first | exact Nat.le_refl _ | (simp; done) | (simp; omega)) _ | assumption))⟩
    · have HP : Hid (screenP L pl pc top key n = noMov) := Lib.hid (by rw [screenP, if_neg (fun e => h1 e.2.1)])
      have h1' : decide (1 ≤ n) = false := decide_eq_false h1
      clear h1
      rcases (by omega : top < 0 ∨ 0 ≤ top) with t0 | t0
      all_goals (
        go_enter Try.func19, Try.ntmps19
        go_wp2_with (first | (go_at_call 57; refine (rmay_any _ _ L _ _ _ _ (by (repeat (first | assumption | refine LinesAt.ovr ?_ _ | refine LinesAt.alloc ?_ _ | refine LinesAt.drewN ?_ _ | refine LinesAt.drew ?_)))).mono ?_; rintro e w1 ⟨rfl, hbl⟩; obtain ⟨x, rfl⟩ := ovr_of_below hbl; clear hbl) | (go_at_call 58; refine (rnone_any _).mono ?_; rintro e w1 ⟨rfl, hbl⟩; obtain ⟨x, rfl⟩ := ovr_of_below hbl; clear hbl))
        refine bodyPost_ret (v := movV noMov) (by simp [results, Try.results19, go_sem, noMov]) rfl ⟨by rw [HP.out], by (repeat (first | exact Below.refl _ _ | refine Below.alloc ?_ (by first | exact Nat.le_refl _ | (simp; done) | (simp; omega)) _ | refine below_ovr_of ?_ | refine drew_below ?_ _ | refine Below.drew ?_ | refine Below.setCell ?_ (by first | exact Nat.le_refl _ | (simp; done) | (simp; omega)) _ | assumption))⟩)
end Go.Proofs.Ytmafieomlhpdeaa
