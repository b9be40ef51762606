/- The contracts of the references' motions by paragraphs. Conditions: none beyond what each says. -/
import Derived.Test.YtnaceobbbfbhhaaPara2
namespace Go.Proofs.Ytnaceobbbfbhhaa
open Go.RowKit

set_option maxRecDepth 100000 in
set_option maxHeartbeats 8000000 in
theorem rparaBack_any (a : Option Addr) (cap : Nat) (L : List ByteArray) (pl pc n : Int) (w : World) (hL : LinesAt w a L) (hn2 : n ≤ 9223372036854775807) :
    Calls Try.prog 54 #[.slice a L.length cap, .agg #[.int .i64 pl, .int .i64 pc], .int .i64 n] w fun e w' => e = .returned (movV (paraP L pl pc n false false)) ∧ Below w.heap.size w w' := by
  have hn := hL.2.1
  by_cases h : plcB L pl pc = true ∧ 1 ≤ n
  · have HQ : Hid ((plcB L pl pc && decide (1 ≤ n)) = true) := Lib.hid (by rw [h.1, decide_eq_true h.2]; rfl)
    obtain ⟨l, c, m, rfl, rfl, rfl, hl, hm, hp⟩ := para_in h false false
    obtain ⟨A, hA⟩ : ∃ A, stepsP L false false m l c = A := ⟨_, rfl⟩
    have HP := Lib.hid (hp.trans hA)
    have HA := Lib.hid hA
    clear hp hA h
    go_enter Try.func54, Try.ntmps54
    go_wp2_with (go_at_call 85; refine (rmay_at _ _ L _ _ _ _ (by (repeat (first | assumption | refine LinesAt.ovr ?_ _ | refine LinesAt.alloc ?_ _ | refine LinesAt.drewN ?_ _ | refine LinesAt.drew ?_))) HQ).mono ?_; rintro e w1 ⟨rfl, hbl⟩; obtain ⟨x, rfl⟩ := ovr_of_below hbl; clear hbl)
    go_loopw [2] (fun n wr => ∃ k l1 c1 : Nat, n = .int .i64 k ∧ k ≤ m ∧ l1 < L.length ∧ Hid (stepsP L false false k l1 c1 = A) ∧ ∃ x, wr = ovr ((w.alloc (.cells #[.int .i64 (l1 : Int), .int .i64 (c1 : Int)] 46)).alloc (.cells #[.int .i64 0, .int .i64 0, .int .i64 0, .bool false, .int .i64 0] 59)) x) (fun n _ => (intOf n).toNat)
    case atStart => exact ⟨m, l, c, rfl, Nat.le_refl _, hl, HA, _, rfl⟩
    case round =>
      obtain ⟨k0, l1, c1, rfl, hk, hl1, HK, x, rfl⟩ := hrel
      rcases k0 with _ | k
      · have HR := Lib.hid (HP.out.trans (HK.out.symm.trans (stepsP_end L false false l1 c1)))
        have e0 : ¬ (0 : Int) < ((0 : Nat) : Int) := by omega
        go_wp2_with (go_at_call 89; refine (rjump_any _ _ _).mono ?_; rintro e w1 ⟨rfl, hbl⟩; obtain ⟨x, rfl⟩ := ovr_of_below hbl; clear hbl)
        refine bodyPost_ret (v := movV (((l1 : Int), (c1 : Int), 0, true, -1), true)) (by simp [results, Try.results54, go_sem]) rfl ⟨by rw [HR.out], by (repeat (first | with_reducible exact Below.refl _ _ | (with_reducible refine Below.setCell ?_ ?_ _; rotate_left; · (first | exact Nat.le_refl _ | assumption | omega | (simp; done) | (simp; omega))) | (with_reducible refine Below.alloc ?_ ?_ _; rotate_left; · (first | exact Nat.le_refl _ | assumption | omega | (simp; done) | (simp; omega))) | with_reducible refine below_ovr_of ?_ | with_reducible refine drew_below ?_ _ | with_reducible refine Below.drew ?_ | with_reducible assumption))⟩
      · obtain ⟨⟨l2, c2⟩, hT⟩ : ∃ t, bkT L l1 = t := ⟨_, rfl⟩
        obtain ⟨q, hq⟩ : ∃ q, lessB l2 c2 l1 c1 = q := ⟨_, rfl⟩
        have hl2 := parT_in (op := false) (fwd := false) hl1 ((parT_bwd L false l1).trans hT)
        have HT := Lib.hid hT
        have HG : Hid (goB false l1 c1 l2 c2 = q) := Lib.hid hq
        have HQ2 := Lib.hid hq
        have hkI : (0 : Int) < ((k + 1 : Nat) : Int) := by omega
        have hkJ : ((k + 1 : Nat) : Int) - 1 = (k : Int) := by omega
        clear hT hq
        obtain ⟨B, hB⟩ : ∃ B, pbF L l1 = B := ⟨_, rfl⟩
        have HB := Lib.hid hB
        clear hB
        go_wp2
        go_loop [9] (fun i => ∃ j : Nat, j ≤ l1 ∧ i = .int .i64 ((j : Int) - 1) ∧ Hid (pbF L j = B)) (fun i => (intOf i + 1).toNat)
        case atStart => exact ⟨l1, Nat.le_refl _, by go_num, HB⟩
        case round =>
          obtain ⟨j0, hj, rfl, HJ⟩ := hrel
          rcases j0 with _ | j
          · have HR0 := Lib.hid (HT.out.symm.trans (bkT_none (HB.out.trans (HJ.out.symm.trans rfl))))
            have e0 : ((0 : Nat) : Int) - 1 = -1 := by omega
            rw [e0]
            clear e0 HJ
            have hr0 := HR0.out
            simp only [Prod.mk.injEq] at hr0
            obtain ⟨rfl, rfl⟩ := hr0
            clear HR0
            cases q with
            | false =>
              have HR := Lib.hid (HP.out.trans (HK.out.symm.trans (stepsP_no ((parT_bwd L _ l1).trans HT.out) HG.out)))
              go_wp2_with (first | (go_at_call 58; refine (rless_at _ _ _ _ _ HQ2).mono ?_; rintro e w1 ⟨rfl, hbl⟩; obtain ⟨x, rfl⟩ := ovr_of_below hbl; clear hbl) | (go_at_call 86; refine (rnone_any _).mono ?_; rintro e w1 ⟨rfl, hbl⟩; obtain ⟨x, rfl⟩ := ovr_of_below hbl; clear hbl))
              refine bodyPost_ret (v := movV noMov) (by simp [results, Try.results54, go_sem, noMov]) rfl ⟨by rw [HR.out], by (repeat (first | with_reducible exact Below.refl _ _ | (with_reducible refine Below.setCell ?_ ?_ _; rotate_left; · (first | exact Nat.le_refl _ | assumption | omega | (simp; done) | (simp; omega))) | (with_reducible refine Below.alloc ?_ ?_ _; rotate_left; · (first | exact Nat.le_refl _ | assumption | omega | (simp; done) | (simp; omega))) | with_reducible refine below_ovr_of ?_ | with_reducible refine drew_below ?_ _ | with_reducible refine Below.drew ?_ | with_reducible assumption))⟩
            | true =>
              have HK2 := Lib.hid ((stepsP_on (n := k) ((parT_bwd L _ l1).trans HT.out) HG.out).symm.trans HK.out)
              go_wp2_with (go_at_call 58; refine (rless_at _ _ _ _ _ HQ2).mono ?_; rintro e w1 ⟨rfl, hbl⟩; obtain ⟨x, rfl⟩ := ovr_of_below hbl; clear hbl)
              go_roundw
              case rel => exact ⟨k, _, _, by go_num, by omega, hl2, HK2, ovr_of_below (by (try rw [show ((0 : Nat) : Int) = 0 from rfl]); (repeat (first | with_reducible exact Below.refl _ _ | (with_reducible refine Below.setCell ?_ ?_ _; rotate_left; · (first | exact Nat.le_refl _ | assumption | omega | (simp; done) | (simp; omega))) | (with_reducible refine Below.alloc ?_ ?_ _; rotate_left; · (first | exact Nat.le_refl _ | assumption | omega | (simp; done) | (simp; omega))) | with_reducible refine below_ovr_of ?_ | with_reducible refine drew_below ?_ _ | with_reducible refine Below.drew ?_ | with_reducible assumption)))⟩
              case measure => simp [intOf] <;> omega
          · have e0 : ((j + 1 : Nat) : Int) - 1 = (j : Int) := by omega
            rw [e0]
            clear e0
            have hltI : (j : Int) < (L.length : Int) := by omega
            have hj0 : (0 : Int) ≤ (j : Int) := by omega
            have hlt2 : (j : Int) + 1 < (L.length : Int) := by omega
            obtain ⟨b, off, s1, rfl, hb1, hc1, hw1⟩ := emp_facts hL (i := j) (by omega)
            obtain ⟨b', off', s2, e', hb2, hc2, hw2⟩ := emp_facts hL (i := j + 1) (by omega)
            cases e'
            rcases hw1 with ⟨h1, rfl⟩ | ⟨h1, hse1, hs1⟩
            · rcases hw2 with ⟨h2, rfl⟩ | ⟨h2, hse2, hs2⟩
              · have HJ2 : Hid (pbF L j = B) := Lib.hid (by rw [← pbF_no (show gapB L j (j + 1) = false by rw [gapB, h1, h2]; rfl)]; exact HJ.out)
                clear h1 h2 HJ
                go_wp2
                go_round
                case rel => exact ⟨j, by omega, by go_num, HJ2⟩
                case measure => simp [intOf] <;> omega
              · have HR0 := Lib.hid (HT.out.symm.trans (bkT_some (HB.out.trans (HJ.out.symm.trans (pbF_yes (by rw [gapB, h1, h2]; rfl))))))
                clear h1 h2 HJ
                have hr0 := HR0.out
                simp only [Prod.mk.injEq] at hr0
                obtain ⟨rfl, rfl⟩ := hr0
                clear HR0
                cases q with
                | false =>
                  have HR := Lib.hid (HP.out.trans (HK.out.symm.trans (stepsP_no ((parT_bwd L _ l1).trans HT.out) HG.out)))
                  go_wp2_with (first | (go_at_call 58; refine (rless_at _ _ _ _ _ HQ2).mono ?_; rintro e w1 ⟨rfl, hbl⟩; obtain ⟨x, rfl⟩ := ovr_of_below hbl; clear hbl) | (go_at_call 86; refine (rnone_any _).mono ?_; rintro e w1 ⟨rfl, hbl⟩; obtain ⟨x, rfl⟩ := ovr_of_below hbl; clear hbl))
                  refine bodyPost_ret (v := movV noMov) (by simp [results, Try.results54, go_sem, noMov]) rfl ⟨by rw [HR.out], by (repeat (first | with_reducible exact Below.refl _ _ | (with_reducible refine Below.setCell ?_ ?_ _; rotate_left; · (first | exact Nat.le_refl _ | assumption | omega | (simp; done) | (simp; omega))) | (with_reducible refine Below.alloc ?_ ?_ _; rotate_left; · (first | exact Nat.le_refl _ | assumption | omega | (simp; done) | (simp; omega))) | with_reducible refine below_ovr_of ?_ | with_reducible refine drew_below ?_ _ | with_reducible refine Below.drew ?_ | with_reducible assumption))⟩
                | true =>
                  have HK2 := Lib.hid ((stepsP_on (n := k) ((parT_bwd L _ l1).trans HT.out) HG.out).symm.trans HK.out)
                  go_wp2_with (go_at_call 58; refine (rless_at _ _ _ _ _ HQ2).mono ?_; rintro e w1 ⟨rfl, hbl⟩; obtain ⟨x, rfl⟩ := ovr_of_below hbl; clear hbl)
                  go_roundw
                  case rel => exact ⟨k, _, _, by go_num, by omega, hl2, HK2, ovr_of_below (by (try rw [show ((0 : Nat) : Int) = 0 from rfl]); (repeat (first | with_reducible exact Below.refl _ _ | (with_reducible refine Below.setCell ?_ ?_ _; rotate_left; · (first | exact Nat.le_refl _ | assumption | omega | (simp; done) | (simp; omega))) | (with_reducible refine Below.alloc ?_ ?_ _; rotate_left; · (first | exact Nat.le_refl _ | assumption | omega | (simp; done) | (simp; omega))) | with_reducible refine below_ovr_of ?_ | with_reducible refine drew_below ?_ _ | with_reducible refine Below.drew ?_ | with_reducible assumption)))⟩
                  case measure => simp [intOf] <;> omega
            · have HJ2 : Hid (pbF L j = B) := Lib.hid (by rw [← pbF_no (show gapB L j (j + 1) = false by rw [gapB, h1]; rfl)]; exact HJ.out)
              clear h1 HJ hw2
              go_wp2
              go_round
              case rel => exact ⟨j, by omega, by go_num, HJ2⟩
              case measure => simp [intOf] <;> omega
  · have HQ : Hid ((plcB L pl pc && decide (1 ≤ n)) = false) := Lib.hid (by
      rw [Bool.eq_false_iff]; intro e; simp only [Bool.and_eq_true, decide_eq_true_eq] at e; exact h e)
    have HP := Lib.hid (paraP_no (op := false) (fwd := false) h)
    clear h
    go_enter Try.func54, Try.ntmps54
    go_wp2_with (first | (go_at_call 85; refine (rmay_at _ _ L _ _ _ _ (by (repeat (first | assumption | refine LinesAt.ovr ?_ _ | refine LinesAt.alloc ?_ _ | refine LinesAt.drewN ?_ _ | refine LinesAt.drew ?_))) HQ).mono ?_; rintro e w1 ⟨rfl, hbl⟩; obtain ⟨x, rfl⟩ := ovr_of_below hbl; clear hbl) | (go_at_call 86; refine (rnone_any _).mono ?_; rintro e w1 ⟨rfl, hbl⟩; obtain ⟨x, rfl⟩ := ovr_of_below hbl; clear hbl))
    refine bodyPost_ret (v := movV noMov) (by simp [results, Try.results54, go_sem, noMov]) rfl ⟨by rw [HP.out], by (repeat (first | with_reducible exact Below.refl _ _ | (with_reducible refine Below.setCell ?_ ?_ _; rotate_left; · (first | exact Nat.le_refl _ | assumption | omega | (simp; done) | (simp; omega))) | (with_reducible refine Below.alloc ?_ ?_ _; rotate_left; · (first | exact Nat.le_refl _ | assumption | omega | (simp; done) | (simp; omega))) | with_reducible refine below_ovr_of ?_ | with_reducible refine drew_below ?_ _ | with_reducible refine Below.drew ?_ | with_reducible assumption))⟩
end Go.Proofs.Ytnaceobbbfbhhaa
