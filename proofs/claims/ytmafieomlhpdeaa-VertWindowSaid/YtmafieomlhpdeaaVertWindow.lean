/- The walks of the laws VertWindow and VertWant. Conditions: none beyond what each says. -/
import Derived.Test.YtmafieomlhpdeaaVertLaws
import Derived.Deep.Cut
namespace Go.Proofs.Ytmafieomlhpdeaa
open Go.RowKit

theorem screenP_0 {L : List ByteArray} {t key n : Int} (h0 : 0 < L.length) (ht0 : 0 ≤ t) (ht1 : t < L.length) (hn : 1 ≤ n) (hk : key = 72 ∨ key = 76 ∨ key = 77) :
    ∃ T f, screenP L 0 0 t key n = ((T, f, 2, true, -1), true) ∧ screenT L t key n = T := by
  refine ⟨screenT L t key n, fsI L (screenT L t key n), ?_, rfl⟩
  rw [screenP, if_pos ⟨plcB_mk (by omega) (by omega) (by omega) (by unfold szI; omega), hn, by omega, hk⟩]
  rfl

set_option maxHeartbeats 40000000 in
theorem vertWindow_walk (a : Option Addr) (cap : Nat) (L : List ByteArray) (top n : Int) (W : World) (hL : LinesAt W a L) (ht : 0 ≤ top ∧ top ≤ 255) (hn' : 0 ≤ n ∧ n ≤ 255) :
    Calls Try.prog 5 #[.slice a L.length cap, .int .u8 top, .int .u8 n] W fun e W' => e = .returned (.bool true) ∧ Below W.heap.size W W' := by
  obtain ⟨t0, t1⟩ := ht
  obtain ⟨n0, n1⟩ := hn'
  cases hli : textB L with
  | false =>
    go_enter Try.func5, Try.ntmps5
    go_wp2_with (first | (go_at_call 15; refine (known9_any _).mono ?_; rintro e w1 ⟨rfl, hbl⟩; obtain ⟨x, rfl⟩ := ovr_of_below hbl; clear hbl) | (go_at_call 16; refine (text_any _ _ L _ (by (repeat (first | assumption | refine LinesAt.ovr ?_ _ | refine LinesAt.alloc ?_ _ | refine LinesAt.drewN ?_ _ | refine LinesAt.drew ?_)))).mono ?_; rintro e w1 ⟨rfl, rfl⟩))
    go_ret
    exact ⟨rfl, by (repeat (first | exact Below.refl _ _ | refine Below.alloc ?_ (by first | exact Nat.le_refl _ | (simp; done) | (simp; omega)) _ | refine below_ovr_of ?_ | refine drew_below ?_ _ | refine Below.drew ?_ | refine Below.setCell ?_ (by first | exact Nat.le_refl _ | (simp; done) | (simp; omega)) _ | assumption))⟩
  | true =>
    obtain ⟨h0, hn, htot, _⟩ := text_spec hli
    obtain ⟨t, ht⟩ : ∃ t, top % (L.length : Int) = t := ⟨_, rfl⟩
    have ht0 : 0 ≤ t := by rw [← ht]; exact Int.emod_nonneg _ (by omega)
    have ht1 : t < L.length := by rw [← ht]; exact Int.emod_lt_of_pos _ (by omega)
    obtain ⟨k, hk⟩ : ∃ k, n % 12 + 1 = k := ⟨_, rfl⟩
    have k1 : 1 ≤ k := by omega
    have k2 : k ≤ 12 := by omega
    have k3 : n % 12 = k - 1 := by omega
    obtain ⟨T1, f1, e1, q1⟩ := screenP_0 (key := 72) h0 ht0 ht1 k1 (by simp)
    obtain ⟨T2, f2, e2, q2⟩ := screenP_0 (key := 77) h0 ht0 ht1 k1 (by simp)
    obtain ⟨T3, f3, e3, q3⟩ := screenP_0 (key := 76) h0 ht0 ht1 k1 (by simp)
    rw [screenT_72] at q1
    rw [screenT_77] at q2
    rw [screenT_76] at q3
    rw [show max t 0 = t from by omega] at q1 q2 q3
    have E1 := Lib.hid e1
    have E2 := Lib.hid e2
    have E3 := Lib.hid e3
    obtain ⟨la, hla⟩ : ∃ la, min (t + 10) (L.length : Int) - 1 = la := ⟨_, rfl⟩
    have s1 : t ≤ T2 := by omega
    have s2 : T2 ≤ la := by omega
    have s3 : T2 - t ≤ la - T2 := by omega
    have s4 : la - T2 - (T2 - t) ≤ 1 := by omega
    have hw1 : (t + 10 ≤ (L.length : Int) ∧ t + 10 - 1 = la) ∨ ((L.length : Int) < t + 10 ∧ (L.length : Int) - 1 = la) := by omega
    have hw2 : (t + k - 1 ≤ la ∧ t ≤ la - k + 1 ∧ t + k - 1 = T1 ∧ la - k + 1 = T3) ∨ (la < t + k - 1 ∧ la - k + 1 < t ∧ la = T1 ∧ t = T3) := by omega
    have b1 : la ≤ 140737488351232 := by omega
    have b2 : 0 ≤ la := by omega
    have b3 : 0 ≤ T2 := by omega
    clear q1 q2 q3 e1 e2 e3 k3 hla
    rcases hw1 with ⟨c1, c2⟩ | ⟨c1, c2⟩ <;> rcases hw2 with ⟨c3, c4, rfl, rfl⟩ | ⟨c3, c4, rfl, rfl⟩
    all_goals (
      go_enter Try.func5, Try.ntmps5
      go_upto_region 11 with (first | (go_at_call 15; refine (known9_any _).mono ?_; rintro e w1 ⟨rfl, hbl⟩; obtain ⟨x, rfl⟩ := ovr_of_below hbl; clear hbl) | (go_at_call 16; refine (text_any _ _ L _ (by (repeat (first | assumption | refine LinesAt.ovr ?_ _ | refine LinesAt.alloc ?_ _ | refine LinesAt.drewN ?_ _ | refine LinesAt.drew ?_)))).mono ?_; rintro e w1 ⟨rfl, rfl⟩) | (go_at_call 18; refine (vscreen_any _ _ L _ _ _ _ _ _ (by (repeat (first | assumption | refine LinesAt.ovr ?_ _ | refine LinesAt.alloc ?_ _ | refine LinesAt.drewN ?_ _ | refine LinesAt.drew ?_))) (by omega)).mono ?_; rw [E1.out]; rintro e w1 ⟨rfl, hbl⟩; obtain ⟨x, rfl⟩ := ovr_of_below hbl; clear hbl) | (go_at_call 18; refine (vscreen_any _ _ L _ _ _ _ _ _ (by (repeat (first | assumption | refine LinesAt.ovr ?_ _ | refine LinesAt.alloc ?_ _ | refine LinesAt.drewN ?_ _ | refine LinesAt.drew ?_))) (by omega)).mono ?_; rw [E2.out]; rintro e w1 ⟨rfl, hbl⟩; obtain ⟨x, rfl⟩ := ovr_of_below hbl; clear hbl) | (go_at_call 18; refine (vscreen_any _ _ L _ _ _ _ _ _ (by (repeat (first | assumption | refine LinesAt.ovr ?_ _ | refine LinesAt.alloc ?_ _ | refine LinesAt.drewN ?_ _ | refine LinesAt.drew ?_))) (by omega)).mono ?_; rw [E3.out]; rintro e w1 ⟨rfl, hbl⟩; obtain ⟨x, rfl⟩ := ovr_of_below hbl; clear hbl))
      refine name_ptr 9 rfl ?_
      intro H hH
      rw [← hH]
      refine name_ptr 11 rfl ?_
      intro M hM
      rw [← hM]
      refine name_ptr 13 rfl ?_
      intro B hB
      rw [← hB]
      refine name_world ?_
      intro W0 hW)
    all_goals (first
      | (have u1 : W0.cell? ⟨H, 0, none⟩ = some (.int .i64 (t + k - 1)) := by subst hW hB hM hH; simp [go_sem]
         have u3 : W0.cell? ⟨B, 0, none⟩ = some (.int .i64 (la - k + 1)) := by subst hW hB hM hH; simp [go_sem])
      | (have u1 : W0.cell? ⟨H, 0, none⟩ = some (.int .i64 la) := by subst hW hB hM hH; simp [go_sem]
         have u3 : W0.cell? ⟨B, 0, none⟩ = some (.int .i64 t) := by subst hW hB hM hH; simp [go_sem]))
    all_goals (
      have u2 : W0.cell? ⟨M, 0, none⟩ = some (.int .i64 T2) := by subst hW hB hM hH; simp [go_sem]
      have hbel : Below W.heap.size W W0 := by subst hW; (repeat (first | with_reducible exact Below.refl _ _ | (with_reducible refine Below.setCell ?_ ?_ _; rotate_left; · (first | exact Nat.le_refl _ | assumption | omega | (simp; done) | (simp; omega))) | (with_reducible refine Below.alloc ?_ ?_ _; rotate_left; · (first | exact Nat.le_refl _ | assumption | omega | (simp; done) | (simp; omega))) | with_reducible refine below_ovr_of ?_ | with_reducible refine drew_below ?_ _ | with_reducible refine Below.drew ?_ | with_reducible assumption))
      clear hW hB hM hH hL E1 E2 E3 c1 c2 hn htot h0 hli ht hk
      go_wp2
      go_ret
      exact ⟨ret_bool (by simp; try omega), by (repeat (first | with_reducible exact Below.refl _ _ | (with_reducible refine Below.setCell ?_ ?_ _; rotate_left; · (first | exact Nat.le_refl _ | assumption | omega | (simp; done) | (simp; omega))) | (with_reducible refine Below.alloc ?_ ?_ _; rotate_left; · (first | exact Nat.le_refl _ | assumption | omega | (simp; done) | (simp; omega))) | with_reducible refine below_ovr_of ?_ | with_reducible refine drew_below ?_ _ | with_reducible refine Below.drew ?_ | with_reducible assumption))⟩)
end Go.Proofs.Ytmafieomlhpdeaa
