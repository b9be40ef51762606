/- The contract of the reference's Enclosing. Conditions: none beyond what it says. -/
import Derived.Test.YtlbbgocggifjaaaEncl4
import Derived.Test.YtlbbgocggifjaaaMatch2
namespace Go.Proofs.Ytlbbgocggifjaaa
open Go.RowKit

/-- How far down a scan has come, in the whole text. -/
def lowN (a S : Nat) : Nat := if a ≤ S then a else S
theorem lowN_le {a S : Nat} (h : a ≤ S) : lowN a S = a := if_pos h
theorem lowN_ge {a S : Nat} (h : S ≤ a) : lowN a S = S := by unfold lowN; split <;> omega
theorem mono_take (L : List ByteArray) {a b : Nat} (h : a ≤ b) : total (L.take a) ≤ total (L.take b) := by
  have := total_take_le (L.take b) a
  rwa [List.take_take, Nat.min_eq_left h] at this
theorem idx_step (L : List ByteArray) (l i : Nat) : idx L l (i + 1) = idx L l i + 1 := by unfold idx; omega
/-- The place up to which a scan goes. -/
def encS (L : List ByteArray) (l c : Nat) : Nat := if c < (L.getD l .empty).size then idx L l c + 1 else idx L l c
theorem low_less {L : List ByteArray} {l c y i : Nat} (hl : l < L.length) (hy : y ≤ l) (hi : i < (L.getD y .empty).size) (h : lessB l c y i = true) : lowN (idx L y (i + 1)) (encS L l c) = lowN (idx L y i) (encS L l c) := by
  rw [lessB_eq, decide_eq_true_eq] at h
  have e : y = l := by omega
  subst e
  have hc : c < i := by omega
  have hS : encS L y c = idx L y c + 1 := by rw [encS, if_pos (by omega)]
  have h1 : idx L y c + 1 ≤ idx L y i := by unfold idx; omega
  rw [idx_step, hS, lowN_ge (by omega), lowN_ge (by omega)]
theorem low_more {L : List ByteArray} {l c y i : Nat} (hl : l < L.length) (hc : c ≤ (L.getD l .empty).size) (hy : y ≤ l) (hi : i < (L.getD y .empty).size) (h : lessB l c y i = false) : lowN (idx L y (i + 1)) (encS L l c) = idx L y i + 1 ∧ lowN (idx L y i) (encS L l c) = idx L y i ∧ idx L y i ≤ idx L l c := by
  rw [lessB_eq, decide_eq_false_iff_not] at h
  have hle : idx L y (i + 1) ≤ encS L l c := by
    by_cases e : y = l
    · subst e
      unfold encS idx
      split <;> omega
    · have h1 := idx_step L y i
      have h2 : idx L y (i + 1) ≤ total (L.take (y + 1)) := by
        have := total_snoc L y (by omega)
        unfold idx; omega
      have h3 := mono_take L (show y + 1 ≤ l by omega)
      unfold encS
      have h4 : total (L.take l) ≤ idx L l c := by unfold idx; omega
      split <;> omega
  have hq : idx L y i ≤ idx L l c := by
    by_cases e : y = l
    · subst e; unfold idx; omega
    · have h2 : idx L y (i + 1) ≤ total (L.take (y + 1)) := by
        have := total_snoc L y (by omega)
        unfold idx; omega
      have h3 := mono_take L (show y + 1 ≤ l by omega)
      have h1 := idx_step L y i
      have h4 : total (L.take l) ≤ idx L l c := by unfold idx; omega
      omega
  rw [idx_step] at hle ⊢
  exact ⟨lowN_le hle, lowN_le (by omega), hq⟩
theorem low_top {L : List ByteArray} {l c : Nat} (hl : l < L.length) (hc : c ≤ (L.getD l .empty).size) : lowN (idx L (l + 1) 0) (encS L l c) = encS L l c := by
  refine lowN_ge ?_
  rw [idx_succ hl]
  unfold encS idx
  split <;> omega

set_option maxHeartbeats 1000000 in
theorem rencl_no (a : Option Addr) (cap : Nat) (L : List ByteArray) (pl pc o n : Int) (w : World) (hL : LinesAt w a L) (h : ¬ (plcB L pl pc = true ∧ 1 ≤ n ∧ (kindP o).2.2.1 = true)) :
    Calls Try.prog 51 #[.slice a L.length cap, .agg #[.int .i64 pl, .int .i64 pc], .int .u8 o, .int .i64 n] w fun e w' => e = .returned (encV (enclP L pl pc o n)) ∧ Below w.heap.size w w' := by
  have HP := Lib.hid (enclP_no h)
  obtain ⟨⟨k1, k2, k3, k4⟩, hkk⟩ : ∃ r, kindP o = r := ⟨_, rfl⟩
  rw [hkk] at h
  have HK := Lib.hid hkk
  clear hkk
  rcases may_ways L pl pc n with ⟨HQ, hq⟩ | ⟨HQ, hq1, hq2⟩
  · clear h hq
    go_enter Try.func51, Try.ntmps51
    go_wp2_with (first | (go_at_call 49; refine (rkind_ways _ _ HK).mono ?_; rintro e w1 ⟨rfl, rfl⟩) | (go_at_call 111; refine (rmay_any _ _ L _ _ _ _ (by (repeat (first | assumption | refine LinesAt.ovr ?_ _ | refine LinesAt.alloc ?_ _ | refine LinesAt.drewN ?_ _ | refine LinesAt.drew ?_)))).mono ?_; rw [HQ.out]; rintro e w1 ⟨rfl, hbl⟩; obtain ⟨x, rfl⟩ := ovr_of_below hbl; clear hbl))
    refine bodyPost_ret (v := encV noEnc) (by simp [results, Try.results51, go_sem, noEnc]) rfl ⟨by rw [HP.out], by (repeat (first | with_reducible exact Below.refl _ _ | (with_reducible refine Below.setCell ?_ ?_ _; rotate_left; · (first | exact Nat.le_refl _ | assumption | omega | (simp; done) | (simp; omega))) | (with_reducible refine Below.alloc ?_ ?_ _; rotate_left; · (first | exact Nat.le_refl _ | assumption | omega | (simp; done) | (simp; omega))) | with_reducible refine below_ovr_of ?_ | with_reducible refine drew_below ?_ _ | with_reducible refine Below.drew ?_ | with_reducible assumption))⟩
  · cases k3 with
    | true => exact absurd ⟨hq1, hq2, rfl⟩ h
    | false =>
      clear h hq1
      go_enter Try.func51, Try.ntmps51
      go_wp2_with (first | (go_at_call 49; refine (rkind_ways _ _ HK).mono ?_; rintro e w1 ⟨rfl, rfl⟩) | (go_at_call 111; refine (rmay_any _ _ L _ _ _ _ (by (repeat (first | assumption | refine LinesAt.ovr ?_ _ | refine LinesAt.alloc ?_ _ | refine LinesAt.drewN ?_ _ | refine LinesAt.drew ?_)))).mono ?_; rw [HQ.out]; rintro e w1 ⟨rfl, hbl⟩; obtain ⟨x, rfl⟩ := ovr_of_below hbl; clear hbl))
      refine bodyPost_ret (v := encV noEnc) (by simp [results, Try.results51, go_sem, noEnc]) rfl ⟨by rw [HP.out], by (repeat (first | with_reducible exact Below.refl _ _ | (with_reducible refine Below.setCell ?_ ?_ _; rotate_left; · (first | exact Nat.le_refl _ | assumption | omega | (simp; done) | (simp; omega))) | (with_reducible refine Below.alloc ?_ ?_ _; rotate_left; · (first | exact Nat.le_refl _ | assumption | omega | (simp; done) | (simp; omega))) | with_reducible refine below_ovr_of ?_ | with_reducible refine drew_below ?_ _ | with_reducible refine Below.drew ?_ | with_reducible assumption))⟩
end Go.Proofs.Ytlbbgocggifjaaa
