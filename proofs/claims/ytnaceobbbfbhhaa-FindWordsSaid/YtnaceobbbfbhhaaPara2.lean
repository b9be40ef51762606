/- The contracts of motions by paragraphs: so many. Conditions: none beyond what each says. -/
import Derived.Test.YtnaceobbbfbhhaaPara
namespace Go.Proofs.Ytnaceobbbfbhhaa
open Go.RowKit

theorem stepsP_end (L : List ByteArray) (op fwd : Bool) (l c : Nat) : stepsP L op fwd 0 l c = (((l : Int), (c : Int), 0, true, -1), true) := rfl
theorem parT_fwd (L : List ByteArray) (op : Bool) (l : Nat) : parT L op true l = nxT L op l := rfl
theorem parT_bwd (L : List ByteArray) (op : Bool) (l : Nat) : parT L op false l = bkT L l := rfl
theorem rless_at (a b c d : Int) (w : World) {q : Bool} (h : Hid (lessB a b c d = q)) :
    Calls Try.prog 58 #[.agg #[.int .i64 a, .int .i64 b], .agg #[.int .i64 c, .int .i64 d]] w fun e w' => e = .returned (.bool q) ∧ Below w.heap.size w w' := by
  have := rless_any a b c d w
  rw [h.out] at this
  exact this
theorem less_at (a b c d : Int) (w : World) {q : Bool} (h : Hid (lessB a b c d = q)) :
    Calls Try.prog 82 #[.agg #[.int .i64 a, .int .i64 b], .agg #[.int .i64 c, .int .i64 d]] w fun e w' => e = .returned (.bool q) ∧ Below w.heap.size w w' := by
  have := less_any a b c d w
  rw [h.out] at this
  exact this
/-- The place and the count, where both may be. -/
theorem para_in {L : List ByteArray} {pl pc n : Int} (h : plcB L pl pc = true ∧ 1 ≤ n) (op fwd : Bool) : ∃ l c m : Nat, pl = l ∧ pc = c ∧ n = m ∧ l < L.length ∧ 1 ≤ m ∧ paraP L l c m op fwd = stepsP L op fwd m l c := by
  obtain ⟨h1, h2⟩ := h
  obtain ⟨p1, p2, p3, p4⟩ := plcB_spec h1
  obtain ⟨l, rfl⟩ := Int.eq_ofNat_of_zero_le p1
  obtain ⟨c, rfl⟩ := Int.eq_ofNat_of_zero_le p3
  obtain ⟨m, rfl⟩ := Int.eq_ofNat_of_zero_le (show 0 ≤ n by omega)
  refine ⟨l, c, m, rfl, rfl, rfl, by omega, by omega, ?_⟩
  rw [paraP, if_pos ⟨h1, h2⟩]; rfl

set_option maxRecDepth 100000 in
set_option maxHeartbeats 8000000 in
theorem paraNext_any (a : Option Addr) (cap : Nat) (L : List ByteArray) (pl pc n : Int) (op : Bool) (w : World) (hL : LinesAt w a L) (hn2 : n ≤ 9223372036854775807) :
    Calls Try.prog 50 #[.slice a L.length cap, .agg #[.int .i64 pl, .int .i64 pc], .int .i64 n, .bool op] w fun e w' => e = .returned (movV (paraP L pl pc n op true)) ∧ Below w.heap.size w w' := by
  have hn := hL.2.1
  by_cases h : plcB L pl pc = true ∧ 1 ≤ n
  · have HQ : Hid ((plcB L pl pc && decide (1 ≤ n)) = true) := Lib.hid (by rw [h.1, decide_eq_true h.2]; rfl)
    obtain ⟨l, c, m, rfl, rfl, rfl, hl, hm, hp⟩ := para_in h op true
    obtain ⟨A, hA⟩ : ∃ A, stepsP L op true m l c = A := ⟨_, rfl⟩
    have HP := Lib.hid (hp.trans hA)
    have HA := Lib.hid hA
    clear hp hA h
    go_enter Try.func50, Try.ntmps50
    go_wp2_with (go_at_call 93; refine (pfails_at _ _ L _ _ _ _ (by (repeat (first | assumption | refine LinesAt.ovr ?_ _ | refine LinesAt.alloc ?_ _ | refine LinesAt.drewN ?_ _ | refine LinesAt.drew ?_))) HQ).mono ?_; rintro e w1 ⟨rfl, hbl⟩; obtain ⟨x, rfl⟩ := ovr_of_below hbl; clear hbl)
    go_loopw [2] (fun n wr => ∃ k l1 c1 : Nat, n = .int .i64 k ∧ k ≤ m ∧ l1 < L.length ∧ Hid (stepsP L op true k l1 c1 = A) ∧ ∃ x, wr = ovr ((w.alloc (.cells #[.int .i64 (l1 : Int), .int .i64 (c1 : Int)] 46)).alloc (.cells #[.int .i64 0, .int .i64 0, .int .i64 0, .bool false, .int .i64 0] 59)) x) (fun n _ => (intOf n).toNat)
    case atStart => exact ⟨m, l, c, rfl, Nat.le_refl _, hl, HA, _, rfl⟩
    case round =>
      obtain ⟨k0, l1, c1, rfl, hk, hl1, HK, x, rfl⟩ := hrel
      rcases k0 with _ | k
      · have HR := Lib.hid (HP.out.trans (HK.out.symm.trans (stepsP_end L op true l1 c1)))
        have e0 : ¬ (0 : Int) < ((0 : Nat) : Int) := by omega
        go_wp2_with (go_at_call 95; refine (pjump_any _ _ _).mono ?_; rintro e w1 ⟨rfl, hbl⟩; obtain ⟨x, rfl⟩ := ovr_of_below hbl; clear hbl)
        refine bodyPost_ret (v := movV (((l1 : Int), (c1 : Int), 0, true, -1), true)) (by simp [results, Try.results50, go_sem]) rfl ⟨by rw [HR.out], by (repeat (first | with_reducible exact Below.refl _ _ | (with_reducible refine Below.setCell ?_ ?_ _; rotate_left; · (first | exact Nat.le_refl _ | assumption | omega | (simp; done) | (simp; omega))) | (with_reducible refine Below.alloc ?_ ?_ _; rotate_left; · (first | exact Nat.le_refl _ | assumption | omega | (simp; done) | (simp; omega))) | with_reducible refine below_ovr_of ?_ | with_reducible refine drew_below ?_ _ | with_reducible refine Below.drew ?_ | with_reducible assumption))⟩
      · obtain ⟨⟨l2, c2⟩, hT⟩ : ∃ t, nxT L op l1 = t := ⟨_, rfl⟩
        obtain ⟨q, hq⟩ : ∃ q, lessB l1 c1 l2 c2 = q := ⟨_, rfl⟩
        have hl2 := parT_in (op := op) (fwd := true) hl1 ((parT_fwd L op l1).trans hT)
        have HT := Lib.hid hT
        have HG : Hid (goB true l1 c1 l2 c2 = q) := Lib.hid hq
        have HQ2 := Lib.hid hq
        have hkI : (0 : Int) < ((k + 1 : Nat) : Int) := by omega
        have hkJ : ((k + 1 : Nat) : Int) - 1 = (k : Int) := by omega
        clear hT hq
        cases q with
        | false =>
          have HR := Lib.hid (HP.out.trans (HK.out.symm.trans (stepsP_no ((parT_fwd L _ l1).trans HT.out) HG.out)))
          go_wp2_with fail
          go_at_call 94; refine (pnext_any _ _ L l1 _ op _ (by (repeat (first | assumption | refine LinesAt.ovr ?_ _ | refine LinesAt.alloc ?_ _ | refine LinesAt.drewN ?_ _ | refine LinesAt.drew ?_))) hl1 HT).mono ?_; rintro e w1 ⟨rfl, hbl⟩; obtain ⟨y1, rfl⟩ := ovr_of_below hbl; clear hbl
          go_wp2_with (go_at_call 82; refine (less_at _ _ _ _ _ HQ2).mono ?_; rintro e w1 ⟨rfl, hbl⟩; obtain ⟨x, rfl⟩ := ovr_of_below hbl; clear hbl)
          refine bodyPost_ret (v := movV noMov) (by simp [results, Try.results50, go_sem, noMov]) rfl ⟨by rw [HR.out], by (repeat (first | with_reducible exact Below.refl _ _ | (with_reducible refine Below.setCell ?_ ?_ _; rotate_left; · (first | exact Nat.le_refl _ | assumption | omega | (simp; done) | (simp; omega))) | (with_reducible refine Below.alloc ?_ ?_ _; rotate_left; · (first | exact Nat.le_refl _ | assumption | omega | (simp; done) | (simp; omega))) | with_reducible refine below_ovr_of ?_ | with_reducible refine drew_below ?_ _ | with_reducible refine Below.drew ?_ | with_reducible assumption))⟩
        | true =>
          have HK2 := Lib.hid ((stepsP_on (n := k) ((parT_fwd L _ l1).trans HT.out) HG.out).symm.trans HK.out)
          go_wp2_with fail
          go_at_call 94; refine (pnext_any _ _ L l1 _ op _ (by (repeat (first | assumption | refine LinesAt.ovr ?_ _ | refine LinesAt.alloc ?_ _ | refine LinesAt.drewN ?_ _ | refine LinesAt.drew ?_))) hl1 HT).mono ?_; rintro e w1 ⟨rfl, hbl⟩; obtain ⟨y1, rfl⟩ := ovr_of_below hbl; clear hbl
          go_wp2_with (go_at_call 82; refine (less_at _ _ _ _ _ HQ2).mono ?_; rintro e w1 ⟨rfl, hbl⟩; obtain ⟨x, rfl⟩ := ovr_of_below hbl; clear hbl)
          go_roundw
          case rel => exact ⟨k, _, _, by go_num, by omega, hl2, HK2, ovr_of_below (by (try rw [show ((0 : Nat) : Int) = 0 from rfl]); (repeat (first | with_reducible exact Below.refl _ _ | (with_reducible refine Below.setCell ?_ ?_ _; rotate_left; · (first | exact Nat.le_refl _ | assumption | omega | (simp; done) | (simp; omega))) | (with_reducible refine Below.alloc ?_ ?_ _; rotate_left; · (first | exact Nat.le_refl _ | assumption | omega | (simp; done) | (simp; omega))) | with_reducible refine below_ovr_of ?_ | with_reducible refine drew_below ?_ _ | with_reducible refine Below.drew ?_ | with_reducible assumption)))⟩
          case measure => simp [intOf] <;> omega
  · have HQ : Hid ((plcB L pl pc && decide (1 ≤ n)) = false) := Lib.hid (by
      rw [Bool.eq_false_iff]; intro e; simp only [Bool.and_eq_true, decide_eq_true_eq] at e; exact h e)
    have HP := Lib.hid (paraP_no (op := op) (fwd := true) h)
    clear h
    go_enter Try.func50, Try.ntmps50
    go_wp2_with (go_at_call 93; refine (pfails_at _ _ L _ _ _ _ (by (repeat (first | assumption | refine LinesAt.ovr ?_ _ | refine LinesAt.alloc ?_ _ | refine LinesAt.drewN ?_ _ | refine LinesAt.drew ?_))) HQ).mono ?_; rintro e w1 ⟨rfl, hbl⟩; obtain ⟨x, rfl⟩ := ovr_of_below hbl; clear hbl)
    refine bodyPost_ret (v := movV noMov) (by simp [results, Try.results50, go_sem, noMov]) rfl ⟨by rw [HP.out], by (repeat (first | with_reducible exact Below.refl _ _ | (with_reducible refine Below.setCell ?_ ?_ _; rotate_left; · (first | exact Nat.le_refl _ | assumption | omega | (simp; done) | (simp; omega))) | (with_reducible refine Below.alloc ?_ ?_ _; rotate_left; · (first | exact Nat.le_refl _ | assumption | omega | (simp; done) | (simp; omega))) | with_reducible refine below_ovr_of ?_ | with_reducible refine drew_below ?_ _ | with_reducible refine Below.drew ?_ | with_reducible assumption))⟩

set_option maxRecDepth 100000 in
set_option maxHeartbeats 8000000 in
theorem paraBack_any (a : Option Addr) (cap : Nat) (L : List ByteArray) (pl pc n : Int) (w : World) (hL : LinesAt w a L) (hn2 : n ≤ 9223372036854775807) :
    Calls Try.prog 53 #[.slice a L.length cap, .agg #[.int .i64 pl, .int .i64 pc], .int .i64 n] w fun e w' => e = .returned (movV (paraP L pl pc n false false)) ∧ Below w.heap.size w w' := by
  have hn := hL.2.1
  by_cases h : plcB L pl pc = true ∧ 1 ≤ n
  · have HQ : Hid ((plcB L pl pc && decide (1 ≤ n)) = true) := Lib.hid (by rw [h.1, decide_eq_true h.2]; rfl)
    obtain ⟨l, c, m, rfl, rfl, rfl, hl, hm, hp⟩ := para_in h false false
    obtain ⟨A, hA⟩ : ∃ A, stepsP L false false m l c = A := ⟨_, rfl⟩
    have HP := Lib.hid (hp.trans hA)
    have HA := Lib.hid hA
    clear hp hA h
    go_enter Try.func53, Try.ntmps53
    go_wp2_with (go_at_call 93; refine (pfails_at _ _ L _ _ _ _ (by (repeat (first | assumption | refine LinesAt.ovr ?_ _ | refine LinesAt.alloc ?_ _ | refine LinesAt.drewN ?_ _ | refine LinesAt.drew ?_))) HQ).mono ?_; rintro e w1 ⟨rfl, hbl⟩; obtain ⟨x, rfl⟩ := ovr_of_below hbl; clear hbl)
    go_loopw [2] (fun n wr => ∃ k l1 c1 : Nat, n = .int .i64 k ∧ k ≤ m ∧ l1 < L.length ∧ Hid (stepsP L false false k l1 c1 = A) ∧ ∃ x, wr = ovr ((w.alloc (.cells #[.int .i64 (l1 : Int), .int .i64 (c1 : Int)] 46)).alloc (.cells #[.int .i64 0, .int .i64 0, .int .i64 0, .bool false, .int .i64 0] 59)) x) (fun n _ => (intOf n).toNat)
    case atStart => exact ⟨m, l, c, rfl, Nat.le_refl _, hl, HA, _, rfl⟩
    case round =>
      obtain ⟨k0, l1, c1, rfl, hk, hl1, HK, x, rfl⟩ := hrel
      rcases k0 with _ | k
      · have HR := Lib.hid (HP.out.trans (HK.out.symm.trans (stepsP_end L false false l1 c1)))
        have e0 : ¬ (0 : Int) < ((0 : Nat) : Int) := by omega
        go_wp2_with (go_at_call 95; refine (pjump_any _ _ _).mono ?_; rintro e w1 ⟨rfl, hbl⟩; obtain ⟨x, rfl⟩ := ovr_of_below hbl; clear hbl)
        refine bodyPost_ret (v := movV (((l1 : Int), (c1 : Int), 0, true, -1), true)) (by simp [results, Try.results53, go_sem]) rfl ⟨by rw [HR.out], by (repeat (first | with_reducible exact Below.refl _ _ | (with_reducible refine Below.setCell ?_ ?_ _; rotate_left; · (first | exact Nat.le_refl _ | assumption | omega | (simp; done) | (simp; omega))) | (with_reducible refine Below.alloc ?_ ?_ _; rotate_left; · (first | exact Nat.le_refl _ | assumption | omega | (simp; done) | (simp; omega))) | with_reducible refine below_ovr_of ?_ | with_reducible refine drew_below ?_ _ | with_reducible refine Below.drew ?_ | with_reducible assumption))⟩
      · obtain ⟨⟨l2, c2⟩, hT⟩ : ∃ t, bkT L l1 = t := ⟨_, rfl⟩
        obtain ⟨q, hq⟩ : ∃ q, lessB l2 c2 l1 c1 = q := ⟨_, rfl⟩
        have hl2 := parT_in (op := false) (fwd := false) hl1 ((parT_bwd L false l1).trans hT)
        have HT := Lib.hid hT
        have HG : Hid (goB false l1 c1 l2 c2 = q) := Lib.hid hq
        have HQ2 := Lib.hid hq
        have hkI : (0 : Int) < ((k + 1 : Nat) : Int) := by omega
        have hkJ : ((k + 1 : Nat) : Int) - 1 = (k : Int) := by omega
        clear hT hq
        cases q with
        | false =>
          have HR := Lib.hid (HP.out.trans (HK.out.symm.trans (stepsP_no ((parT_bwd L _ l1).trans HT.out) HG.out)))
          go_wp2_with fail
          go_at_call 97; refine (pback_any _ _ L l1 _ _ (by (repeat (first | assumption | refine LinesAt.ovr ?_ _ | refine LinesAt.alloc ?_ _ | refine LinesAt.drewN ?_ _ | refine LinesAt.drew ?_))) hl1 HT).mono ?_; rintro e w1 ⟨rfl, hbl⟩; obtain ⟨y1, rfl⟩ := ovr_of_below hbl; clear hbl
          go_wp2_with (go_at_call 82; refine (less_at _ _ _ _ _ HQ2).mono ?_; rintro e w1 ⟨rfl, hbl⟩; obtain ⟨x, rfl⟩ := ovr_of_below hbl; clear hbl)
          refine bodyPost_ret (v := movV noMov) (by simp [results, Try.results53, go_sem, noMov]) rfl ⟨by rw [HR.out], by (repeat (first | with_reducible exact Below.refl _ _ | (with_reducible refine Below.setCell ?_ ?_ _; rotate_left; · (first | exact Nat.le_refl _ | assumption | omega | (simp; done) | (simp; omega))) | (with_reducible refine Below.alloc ?_ ?_ _; rotate_left; · (first | exact Nat.le_refl _ | assumption | omega | (simp; done) | (simp; omega))) | with_reducible refine below_ovr_of ?_ | with_reducible refine drew_below ?_ _ | with_reducible refine Below.drew ?_ | with_reducible assumption))⟩
        | true =>
          have HK2 := Lib.hid ((stepsP_on (n := k) ((parT_bwd L _ l1).trans HT.out) HG.out).symm.trans HK.out)
          go_wp2_with fail
          go_at_call 97; refine (pback_any _ _ L l1 _ _ (by (repeat (first | assumption | refine LinesAt.ovr ?_ _ | refine LinesAt.alloc ?_ _ | refine LinesAt.drewN ?_ _ | refine LinesAt.drew ?_))) hl1 HT).mono ?_; rintro e w1 ⟨rfl, hbl⟩; obtain ⟨y1, rfl⟩ := ovr_of_below hbl; clear hbl
          go_wp2_with (go_at_call 82; refine (less_at _ _ _ _ _ HQ2).mono ?_; rintro e w1 ⟨rfl, hbl⟩; obtain ⟨x, rfl⟩ := ovr_of_below hbl; clear hbl)
          go_roundw
          case rel => exact ⟨k, _, _, by go_num, by omega, hl2, HK2, ovr_of_below (by (try rw [show ((0 : Nat) : Int) = 0 from rfl]); (repeat (first | with_reducible exact Below.refl _ _ | (with_reducible refine Below.setCell ?_ ?_ _; rotate_left; · (first | exact Nat.le_refl _ | assumption | omega | (simp; done) | (simp; omega))) | (with_reducible refine Below.alloc ?_ ?_ _; rotate_left; · (first | exact Nat.le_refl _ | assumption | omega | (simp; done) | (simp; omega))) | with_reducible refine below_ovr_of ?_ | with_reducible refine drew_below ?_ _ | with_reducible refine Below.drew ?_ | with_reducible assumption)))⟩
          case measure => simp [intOf] <;> omega
  · have HQ : Hid ((plcB L pl pc && decide (1 ≤ n)) = false) := Lib.hid (by
      rw [Bool.eq_false_iff]; intro e; simp only [Bool.and_eq_true, decide_eq_true_eq] at e; exact h e)
    have HP := Lib.hid (paraP_no (op := false) (fwd := false) h)
    clear h
    go_enter Try.func53, Try.ntmps53
    go_wp2_with (go_at_call 93; refine (pfails_at _ _ L _ _ _ _ (by (repeat (first | assumption | refine LinesAt.ovr ?_ _ | refine LinesAt.alloc ?_ _ | refine LinesAt.drewN ?_ _ | refine LinesAt.drew ?_))) HQ).mono ?_; rintro e w1 ⟨rfl, hbl⟩; obtain ⟨x, rfl⟩ := ovr_of_below hbl; clear hbl)
    refine bodyPost_ret (v := movV noMov) (by simp [results, Try.results53, go_sem, noMov]) rfl ⟨by rw [HP.out], by (repeat (first | with_reducible exact Below.refl _ _ | (with_reducible refine Below.setCell ?_ ?_ _; rotate_left; · (first | exact Nat.le_refl _ | assumption | omega | (simp; done) | (simp; omega))) | (with_reducible refine Below.alloc ?_ ?_ _; rotate_left; · (first | exact Nat.le_refl _ | assumption | omega | (simp; done) | (simp; omega))) | with_reducible refine below_ovr_of ?_ | with_reducible refine drew_below ?_ _ | with_reducible refine Below.drew ?_ | with_reducible assumption))⟩
end Go.Proofs.Ytnaceobbbfbhhaa
