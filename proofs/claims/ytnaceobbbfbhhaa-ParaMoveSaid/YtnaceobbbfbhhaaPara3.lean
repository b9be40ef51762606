/- The contracts of the references' motions by paragraphs. Conditions: none beyond what each says. -/
import Derived.Test.YtnaceobbbfbhhaaPara2
namespace Go.Proofs.Ytnaceobbbfbhhaa
open Go.RowKit

set_option maxRecDepth 100000 in
set_option maxHeartbeats 8000000 in
theorem rparaNext_any (a : Option Addr) (cap : Nat) (L : List ByteArray) (pl pc n : Int) (op : Bool) (w : World) (hL : LinesAt w a L) (hn2 : n ≤ 9223372036854775807) :
    Calls Try.prog 51 #[.slice a L.length cap, .agg #[.int .i64 pl, .int .i64 pc], .int .i64 n, .bool op] w fun e w' => e = .returned (movV (paraP L pl pc n op true)) ∧ Below w.heap.size w w' := by
  have hn := hL.2.1
  by_cases h : plcB L pl pc = true ∧ 1 ≤ n
  · have HQ : Hid ((plcB L pl pc && decide (1 ≤ n)) = true) := Lib.hid (by rw [h.1, decide_eq_true h.2]; rfl)
    obtain ⟨l, c, m, rfl, rfl, rfl, hl, hm, hp⟩ := para_in h op true
    obtain ⟨A, hA⟩ : ∃ A, stepsP L op true m l c = A := ⟨_, rfl⟩
    have HP := Lib.hid (hp.trans hA)
    have HA := Lib.hid hA
    clear hp hA h
    go_enter Try.func51, Try.ntmps51
    go_wp2_with (go_at_call 85; refine (rmay_at _ _ L _ _ _ _ (by (repeat (first | assumption | refine LinesAt.ovr ?_ _ | refine LinesAt.alloc ?_ _ | refine LinesAt.drewN ?_ _ | refine LinesAt.drew ?_))) HQ).mono ?_; rintro e w1 ⟨rfl, hbl⟩; obtain ⟨x, rfl⟩ := ovr_of_below hbl; clear hbl)
    go_loopw [2] (fun n wr => ∃ k l1 c1 : Nat, n = .int .i64 k ∧ k ≤ m ∧ l1 < L.length ∧ Hid (stepsP L op true k l1 c1 = A) ∧ ∃ x, wr = ovr ((w.alloc (.cells #[.int .i64 (l1 : Int), .int .i64 (c1 : Int)] 46)).alloc (.cells #[.int .i64 0, .int .i64 0, .int .i64 0, .bool false, .int .i64 0] 59)) x) (fun n _ => (intOf n).toNat)
    case atStart => exact ⟨m, l, c, rfl, Nat.le_refl _, hl, HA, _, rfl⟩
    case round =>
      obtain ⟨k0, l1, c1, rfl, hk, hl1, HK, x, rfl⟩ := hrel
      rcases k0 with _ | k
      · have HR := Lib.hid (HP.out.trans (HK.out.symm.trans (stepsP_end L op true l1 c1)))
        have e0 : ¬ (0 : Int) < ((0 : Nat) : Int) := by omega
        go_wp2_with (go_at_call 89; refine (rjump_any _ _ _).mono ?_; rintro e w1 ⟨rfl, hbl⟩; obtain ⟨x, rfl⟩ := ovr_of_below hbl; clear hbl)
        refine bodyPost_ret (v := movV (((l1 : Int), (c1 : Int), 0, true, -1), true)) (by simp [results, Try.results51, go_sem]) rfl ⟨by rw [HR.out], by (repeat (first | with_reducible exact Below.refl _ _ | (with_reducible refine Below.setCell ?_ ?_ _; rotate_left; · (first | exact Nat.le_refl _ | assumption | omega | (simp; done) | (simp; omega))) | (with_reducible refine Below.alloc ?_ ?_ _; rotate_left; · (first | exact Nat.le_refl _ | assumption | omega | (simp; done) | (simp; omega))) | with_reducible refine below_ovr_of ?_ | with_reducible refine drew_below ?_ _ | with_reducible refine Below.drew ?_ | with_reducible assumption))⟩
      · obtain ⟨⟨l2, c2⟩, hT⟩ : ∃ t, nxT L op l1 = t := ⟨_, rfl⟩
        obtain ⟨q, hq⟩ : ∃ q, lessB l1 c1 l2 c2 = q := ⟨_, rfl⟩
        have hl2 := parT_in (op := op) (fwd := true) hl1 ((parT_fwd L op l1).trans hT)
        have HT := Lib.hid hT
        have HG : Hid (goB true l1 c1 l2 c2 = q) := Lib.hid hq
        have HQ2 := Lib.hid hq
        have hkI : (0 : Int) < ((k + 1 : Nat) : Int) := by omega
        have hkJ : ((k + 1 : Nat) : Int) - 1 = (k : Int) := by omega
        clear hT hq
        obtain ⟨B, hB⟩ : ∃ B, pnF L (l1 + 1) = B := ⟨_, rfl⟩
        have HB := Lib.hid hB
        obtain ⟨e, he⟩ : ∃ e, L.length - 1 = e := ⟨_, rfl⟩
        have HE := Lib.hid he
        obtain ⟨b, off, s, rfl, hb, hcell, hs, HS⟩ := line_facts' hL (i := e) (by omega)
        obtain ⟨cl, hcl⟩ : ∃ cl : Nat, lastN L op = cl := ⟨_, rfl⟩
        have HCL := Lib.hid hcl
        have hcl2 : (op = true ∧ (s.size : Int) = (cl : Int)) ∨ (op = false ∧ s.size = 0 ∧ cl = 0) ∨ (op = false ∧ (s.size : Int) - 1 = (cl : Int) ∧ 0 ≤ (cl : Int)) := by
          rw [lastN, he, HS.out] at hcl
          cases op with
          | true => simp only [if_true] at hcl; exact .inl ⟨rfl, by omega⟩
          | false =>
            simp only [Bool.false_eq_true, if_false] at hcl
            by_cases h0 : s.size = 0
            · exact .inr (.inl ⟨rfl, h0, by omega⟩)
            · exact .inr (.inr ⟨rfl, by omega, by omega⟩)
        clear hB he hcl
        go_wp2_with fail
        go_at_call 96; refine (rend_any _ _ L _ (by (repeat (first | assumption | refine LinesAt.ovr ?_ _ | refine LinesAt.alloc ?_ _ | refine LinesAt.drewN ?_ _ | refine LinesAt.drew ?_))) (by omega) HE.out HS.out).mono ?_; rintro e' w1 ⟨rfl, hbl⟩; obtain ⟨y1, rfl⟩ := ovr_of_below hbl; clear hbl
        rcases hcl2 with ⟨rfl, hcl⟩ | ⟨rfl, h0, rfl⟩ | ⟨rfl, hcl, hcl0⟩
        case' inr.inl => obtain rfl := str_nil h0; clear h0
        all_goals (
          go_wp2
          go_loop [11] (fun i => ∃ j : Nat, l1 + 1 ≤ j ∧ j ≤ L.length ∧ i = .int .i64 j ∧ Hid (pnF L j = B)) (fun i => L.length - (intOf i).toNat)
          case atStart => exact ⟨l1 + 1, Nat.le_refl _, hl1, by go_num, HB⟩
          case round =>
            obtain ⟨j, hj1, hj, rfl, HJ⟩ := hrel
            by_cases hlt : j < L.length
            · have hltI : (j : Int) < (L.length : Int) := by omega
              have hj0 : (0 : Int) ≤ (j : Int) := by omega
              obtain ⟨b', off', s1, e', hb1, hc1, hw1⟩ := emp_facts hL hlt
              cases e'
              obtain ⟨j1, hjj⟩ : ∃ j1, j - 1 = j1 := ⟨_, rfl⟩
              obtain ⟨b', off', s2, e', hb2, hc2, hw2⟩ := emp_facts hL (i := j1) (by omega)
              cases e'
              have ej : (j : Int) - 1 = (j1 : Int) := by omega
              have hj10 : (0 : Int) ≤ (j1 : Int) := by omega
              have hj1I : (j1 : Int) < (L.length : Int) := by omega
              have hgap : gapB L j (j - 1) = (emp L j && !emp L j1) := by rw [gapB, hjj]
              clear hjj
              rcases hw1 with ⟨h1, rfl⟩ | ⟨h1, hse1, hs1⟩
              · rcases hw2 with ⟨h2, rfl⟩ | ⟨h2, hse2, hs2⟩
                · have HJ2 : Hid (pnF L (j + 1) = B) := Lib.hid (by rw [← pnF_no hlt (by rw [hgap, h1, h2]; rfl)]; exact HJ.out)
                  clear hgap h1 h2 HJ
                  go_wp2
                  go_round
                  case rel => exact ⟨j + 1, by omega, by omega, by go_num, HJ2⟩
                  case measure => simp [intOf] <;> omega
                · have HR0 := Lib.hid (HT.out.symm.trans (nxT_some (HB.out.trans (HJ.out.symm.trans (pnF_yes hlt (by rw [hgap, h1, h2]; rfl))))))
                  clear hgap h1 h2 HJ
                  have hr0 := HR0.out
                  simp only [Prod.mk.injEq] at hr0
                  obtain ⟨rfl, rfl⟩ := hr0
                  clear HR0
                  cases q with
                  | false =>
                    have HR := Lib.hid (HP.out.trans (HK.out.symm.trans (stepsP_no ((parT_fwd L _ l1).trans HT.out) HG.out)))
                    go_wp2_with (first | (go_at_call 58; refine (rless_at _ _ _ _ _ HQ2).mono ?_; rintro e w1 ⟨rfl, hbl⟩; obtain ⟨x, rfl⟩ := ovr_of_below hbl; clear hbl) | (go_at_call 86; refine (rnone_any _).mono ?_; rintro e w1 ⟨rfl, hbl⟩; obtain ⟨x, rfl⟩ := ovr_of_below hbl; clear hbl))
                    refine bodyPost_ret (v := movV noMov) (by simp [results, Try.results51, go_sem, noMov]) rfl ⟨by rw [HR.out], by (repeat (first | with_reducible exact Below.refl _ _ | (with_reducible refine Below.setCell ?_ ?_ _; rotate_left; · (first | exact Nat.le_refl _ | assumption | omega | (simp; done) | (simp; omega))) | (with_reducible refine Below.alloc ?_ ?_ _; rotate_left; · (first | exact Nat.le_refl _ | assumption | omega | (simp; done) | (simp; omega))) | with_reducible refine below_ovr_of ?_ | with_reducible refine drew_below ?_ _ | with_reducible refine Below.drew ?_ | with_reducible assumption))⟩
                  | true =>
                    have HK2 := Lib.hid ((stepsP_on (n := k) ((parT_fwd L _ l1).trans HT.out) HG.out).symm.trans HK.out)
                    go_wp2_with (go_at_call 58; refine (rless_at _ _ _ _ _ HQ2).mono ?_; rintro e w1 ⟨rfl, hbl⟩; obtain ⟨x, rfl⟩ := ovr_of_below hbl; clear hbl)
                    go_roundw
                    case rel => exact ⟨k, _, _, by go_num, by omega, hl2, HK2, ovr_of_below (by (try rw [show ((0 : Nat) : Int) = 0 from rfl]); (repeat (first | with_reducible exact Below.refl _ _ | (with_reducible refine Below.setCell ?_ ?_ _; rotate_left; · (first | exact Nat.le_refl _ | assumption | omega | (simp; done) | (simp; omega))) | (with_reducible refine Below.alloc ?_ ?_ _; rotate_left; · (first | exact Nat.le_refl _ | assumption | omega | (simp; done) | (simp; omega))) | with_reducible refine below_ovr_of ?_ | with_reducible refine drew_below ?_ _ | with_reducible refine Below.drew ?_ | with_reducible assumption)))⟩
                    case measure => simp [intOf] <;> omega
              · have HJ2 : Hid (pnF L (j + 1) = B) := Lib.hid (by rw [← pnF_no hlt (by rw [hgap, h1]; rfl)]; exact HJ.out)
                clear hgap h1 HJ hw2
                go_wp2
                go_round
                case rel => exact ⟨j + 1, by omega, by omega, by go_num, HJ2⟩
                case measure => simp [intOf] <;> omega
            · have hltI : ¬ (j : Int) < (L.length : Int) := by omega
              have HR0 := Lib.hid (HT.out.symm.trans (nxT_none (HB.out.trans (HJ.out.symm.trans (pnF_end (by omega)))) HE.out))
              clear HJ
              have hr0 := HR0.out
              rw [HCL.out] at hr0
              simp only [Prod.mk.injEq] at hr0
              obtain ⟨rfl, rfl⟩ := hr0
              clear HR0
              cases q with
              | false =>
                have HR := Lib.hid (HP.out.trans (HK.out.symm.trans (stepsP_no ((parT_fwd L _ l1).trans HT.out) HG.out)))
                go_wp2_with (first | (go_at_call 58; refine (rless_at _ _ _ _ _ HQ2).mono ?_; rintro e w1 ⟨rfl, hbl⟩; obtain ⟨x, rfl⟩ := ovr_of_below hbl; clear hbl) | (go_at_call 86; refine (rnone_any _).mono ?_; rintro e w1 ⟨rfl, hbl⟩; obtain ⟨x, rfl⟩ := ovr_of_below hbl; clear hbl))
                refine bodyPost_ret (v := movV noMov) (by simp [results, Try.results51, go_sem, noMov]) rfl ⟨by rw [HR.out], by (repeat (first | with_reducible exact Below.refl _ _ | (with_reducible refine Below.setCell ?_ ?_ _; rotate_left; · (first | exact Nat.le_refl _ | assumption | omega | (simp; done) | (simp; omega))) | (with_reducible refine Below.alloc ?_ ?_ _; rotate_left; · (first | exact Nat.le_refl _ | assumption | omega | (simp; done) | (simp; omega))) | with_reducible refine below_ovr_of ?_ | with_reducible refine drew_below ?_ _ | with_reducible refine Below.drew ?_ | with_reducible assumption))⟩
              | true =>
                have HK2 := Lib.hid ((stepsP_on (n := k) ((parT_fwd L _ l1).trans HT.out) HG.out).symm.trans HK.out)
                go_wp2_with (go_at_call 58; refine (rless_at _ _ _ _ _ HQ2).mono ?_; rintro e w1 ⟨rfl, hbl⟩; obtain ⟨x, rfl⟩ := ovr_of_below hbl; clear hbl)
                go_roundw
                case rel => exact ⟨k, _, _, by go_num, by omega, hl2, HK2, ovr_of_below (by (try rw [show ((0 : Nat) : Int) = 0 from rfl]); (repeat (first | with_reducible exact Below.refl _ _ | (with_reducible refine Below.setCell ?_ ?_ _; rotate_left; · (first | exact Nat.le_refl _ | assumption | omega | (simp; done) | (simp; omega))) | (with_reducible refine Below.alloc ?_ ?_ _; rotate_left; · (first | exact Nat.le_refl _ | assumption | omega | (simp; done) | (simp; omega))) | with_reducible refine below_ovr_of ?_ | with_reducible refine drew_below ?_ _ | with_reducible refine Below.drew ?_ | with_reducible assumption)))⟩
                case measure => simp [intOf] <;> omega)
  · have HQ : Hid ((plcB L pl pc && decide (1 ≤ n)) = false) := Lib.hid (by
      rw [Bool.eq_false_iff]; intro e; simp only [Bool.and_eq_true, decide_eq_true_eq] at e; exact h e)
    have HP := Lib.hid (paraP_no (op := op) (fwd := true) h)
    clear h
    go_enter Try.func51, Try.ntmps51
    go_wp2_with (first | (go_at_call 85; refine (rmay_at _ _ L _ _ _ _ (by (repeat (first | assumption | refine LinesAt.ovr ?_ _ | refine LinesAt.alloc ?_ _ | refine LinesAt.drewN ?_ _ | refine LinesAt.drew ?_))) HQ).mono ?_; rintro e w1 ⟨rfl, hbl⟩; obtain ⟨x, rfl⟩ := ovr_of_below hbl; clear hbl) | (go_at_call 86; refine (rnone_any _).mono ?_; rintro e w1 ⟨rfl, hbl⟩; obtain ⟨x, rfl⟩ := ovr_of_below hbl; clear hbl))
    refine bodyPost_ret (v := movV noMov) (by simp [results, Try.results51, go_sem, noMov]) rfl ⟨by rw [HP.out], by (repeat (first | with_reducible exact Below.refl _ _ | (with_reducible refine Below.setCell ?_ ?_ _; rotate_left; · (first | exact Nat.le_refl _ | assumption | omega | (simp; done) | (simp; omega))) | (with_reducible refine Below.alloc ?_ ?_ _; rotate_left; · (first | exact Nat.le_refl _ | assumption | omega | (simp; done) | (simp; omega))) | with_reducible refine below_ovr_of ?_ | with_reducible refine drew_below ?_ _ | with_reducible refine Below.drew ?_ | with_reducible assumption))⟩
end Go.Proofs.Ytnaceobbbfbhhaa
