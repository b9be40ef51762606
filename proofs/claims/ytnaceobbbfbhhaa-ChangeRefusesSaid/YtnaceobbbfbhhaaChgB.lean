/- The contract of the reference's one change. Conditions: lengths that a machine bears. -/
import Derived.Test.YtnaceobbbfbhhaaChgC
namespace Go.Proofs.Ytnaceobbbfbhhaa
open Go.RowKit

set_option maxRecDepth 100000 in
set_option maxHeartbeats 4000000 in
theorem rone_any (a ao an : Option Addr) (cap co cn : Nat) (L O N : List ByteArray) (at_ : Int) (w : World) (hL : LinesAt w a L) (hc : L.length ≤ cap) (hO : LinesAt w ao O) (hN : LinesAt w an N) (hs : sizeP L + sizeP O + sizeP N ≤ 100000) (hw : -9223372036854775808 ≤ at_ ∧ at_ ≤ 9223372036854775807) :
    Calls Try.prog 75 #[.slice a L.length cap, .agg #[.int .i64 at_, .slice ao O.length co, .slice an N.length cn]] w fun e w' => (∃ v, e = .returned v ∧ AppF w.heap.size w' (applyP L (at_, O, N)) v) ∧ Below w.heap.size w w' := by
  have lL := len_sizeP L
  have lO := len_sizeP O
  have lN := len_sizeP N
  have hOb : O.length ≤ 100000 := by omega
  obtain ⟨hw1, hw2⟩ := hw
  rcases applyP_ways (L := L) (O := O) (N := N) (at_ := at_) with ⟨hy, h⟩ | ⟨k, rfl, h1, h2, h3, hy⟩
  · rw [hy]
    have hend : ∀ w', AppF w.heap.size w' none (.tuple #[.slice none 0 0, .bool false]) := fun _ => rfl
    clear hy
    rcases h with h | ⟨h0, h⟩ | ⟨h0, h1, h⟩ | ⟨h0, h1, h2, h⟩ | ⟨k, rfl, h1, h2, h3⟩
    · have hd : decide (at_ < 0) = true := decide_eq_true h
      go_enter Try.func75, Try.ntmps75
      go_wp2
      (refine wp_region_ovr (by kernel_rfl) (by kernel_rfl) ?_; (repeat (go_big_quiet_step (fail))); refine wpQuiet_nil ?_; rintro _ ⟨zq, rfl⟩)
      go_wp2
      go_ret2
      exact ⟨⟨_, rfl, hend _⟩, by (repeat (first | with_reducible exact Below.refl _ _ | (with_reducible refine Below.setCell ?_ ?_ _; rotate_left; · (first | exact Nat.le_refl _ | assumption | omega | (simp; done) | (simp; omega))) | (with_reducible refine Below.alloc ?_ ?_ _; rotate_left; · (first | exact Nat.le_refl _ | assumption | omega | (simp; done) | (simp; omega))) | with_reducible refine below_ovr_of ?_ | with_reducible refine drew_below ?_ _ | with_reducible refine Below.drew ?_ | with_reducible assumption))⟩
    · have hd : decide (at_ < 0) = false := decide_eq_false (by omega)
      have hd2 : decide ((L.length : Int) < at_) = true := decide_eq_true h
      go_enter Try.func75, Try.ntmps75
      go_wp2
      (refine wp_region_ovr (by kernel_rfl) (by kernel_rfl) ?_; (repeat (go_big_quiet_step (fail))); refine wpQuiet_nil ?_; rintro _ ⟨zq, rfl⟩)
      go_wp2
      go_ret2
      exact ⟨⟨_, rfl, hend _⟩, by (repeat (first | with_reducible exact Below.refl _ _ | (with_reducible refine Below.setCell ?_ ?_ _; rotate_left; · (first | exact Nat.le_refl _ | assumption | omega | (simp; done) | (simp; omega))) | (with_reducible refine Below.alloc ?_ ?_ _; rotate_left; · (first | exact Nat.le_refl _ | assumption | omega | (simp; done) | (simp; omega))) | with_reducible refine below_ovr_of ?_ | with_reducible refine drew_below ?_ _ | with_reducible refine Below.drew ?_ | with_reducible assumption))⟩
    · have hd : decide (at_ < 0) = false := decide_eq_false (by omega)
      have hd2 : decide ((L.length : Int) < at_) = false := decide_eq_false (by omega)
      have w1 : IntKind.i64.wrap ((L.length : Int) - at_) = (L.length : Int) - at_ := IntWalk.i64_in _ (by omega)
      have hd3 : decide ((L.length : Int) - at_ < (O.length : Int)) = true := decide_eq_true h
      go_enter Try.func75, Try.ntmps75
      go_wp2
      (refine wp_region_ovr (by kernel_rfl) (by kernel_rfl) ?_; (repeat (go_big_quiet_step (fail))); refine wpQuiet_nil ?_; rintro _ ⟨zq, rfl⟩)
      go_wp2
      go_ret2
      exact ⟨⟨_, rfl, hend _⟩, by (repeat (first | with_reducible exact Below.refl _ _ | (with_reducible refine Below.setCell ?_ ?_ _; rotate_left; · (first | exact Nat.le_refl _ | assumption | omega | (simp; done) | (simp; omega))) | (with_reducible refine Below.alloc ?_ ?_ _; rotate_left; · (first | exact Nat.le_refl _ | assumption | omega | (simp; done) | (simp; omega))) | with_reducible refine below_ovr_of ?_ | with_reducible refine drew_below ?_ _ | with_reducible refine Below.drew ?_ | with_reducible assumption))⟩
    · obtain ⟨k, rfl⟩ := Int.eq_ofNat_of_zero_le h0
      have hkO : k + O.length ≤ L.length := by omega
      have hd : decide ((k : Int) < 0) = false := decide_eq_false (by omega)
      have hkL : k ≤ L.length := by omega
      have hd2 : decide ((L.length : Int) < (k : Int)) = false := decide_eq_false (by omega)
      have hd2n : decide (L.length < k) = false := decide_eq_false (by omega)
      have w1 : IntKind.i64.wrap ((L.length : Int) - (k : Int)) = (L.length : Int) - (k : Int) := IntWalk.i64_in _ (by omega)
      have hd3 : decide ((L.length : Int) - (k : Int) < (O.length : Int)) = false := decide_eq_false (by omega)
      have w2 : IntKind.i64.wrap ((L.length : Int) - (O.length : Int)) = (L.length : Int) - (O.length : Int) := IntWalk.i64_in _ (by omega)
      have w3 : IntKind.i64.wrap ((L.length : Int) - (O.length : Int) + (N.length : Int)) = (L.length : Int) - (O.length : Int) + (N.length : Int) := IntWalk.i64_in _ (by clear w1 w2; omega)
      have hk0 : (0 : Int) ≤ (k : Int) := by omega
      have hkc : (k : Int) + (O.length : Int) ≤ (cap : Int) := by omega
      have hk3 : (k : Int) ≤ (k : Int) + (O.length : Int) := by omega
      have hk4 : ((k : Int) + (O.length : Int)).toNat = k + O.length := by omega
      have hk6 : (0 : Int) ≤ (k : Int) + (O.length : Int) := by omega
      have hk5 : IntKind.i64.wrap ((k : Int) + (O.length : Int)) = (k : Int) + (O.length : Int) := IntWalk.i64_in _ (by clear w1 w2 w3; omega)
      have hP := hL.piece (lo := k) (n := O.length) (by clear w1 w2 w3 hk5; omega) hc
      have hPl : ((L.drop k).take O.length).length = O.length := by clear w1 w2 w3 hk5; simp; omega
      obtain ⟨A1, hA1⟩ : ∃ A1, (if cap = k then a else a.map (fun x => x.add k)) = A1 := ⟨_, rfl⟩
      rw [hA1] at hP
      have HPL := Lib.hid hPl
      clear hPl
      have h4 : ((L.length : Int) - (O.length : Int) + (N.length : Int) == 0) = true := by rw [beq_iff_eq]; exact h
      cases hq : eqB ((L.drop k).take O.length) O
      all_goals (
        have H3 := Lib.hid hq
        clear hq h
        go_enter Try.func75, Try.ntmps75
        go_wp2
        (refine wp_region_ovr (by kernel_rfl) (by kernel_rfl) ?_; (repeat (go_big_quiet_step ((go_at_call 114; exact quiet_ovr (same_at _ _ _ _ _ _ O _ HPL.out (by (repeat (first | assumption | refine LinesAt.ovr ?_ _ | refine LinesAt.alloc ?_ _ | refine LinesAt.drewN ?_ _ | refine LinesAt.drew ?_))) (by (repeat (first | assumption | refine LinesAt.ovr ?_ _ | refine LinesAt.alloc ?_ _ | refine LinesAt.drewN ?_ _ | refine LinesAt.drew ?_))) (by rw [HPL.out]; exact hOb) H3))))); refine wpQuiet_nil ?_; rintro _ ⟨zq, rfl⟩)
        go_wp2
        go_ret2
        exact ⟨⟨_, rfl, hend _⟩, by (repeat (first | with_reducible exact Below.refl _ _ | (with_reducible refine Below.setCell ?_ ?_ _; rotate_left; · (first | exact Nat.le_refl _ | assumption | omega | (simp; done) | (simp; omega))) | (with_reducible refine Below.alloc ?_ ?_ _; rotate_left; · (first | exact Nat.le_refl _ | assumption | omega | (simp; done) | (simp; omega))) | with_reducible refine below_ovr_of ?_ | with_reducible refine drew_below ?_ _ | with_reducible refine Below.drew ?_ | with_reducible assumption))⟩)
    · have h4 : ((L.length : Int) - (O.length : Int) + (N.length : Int) == 0) = false := by rw [beq_eq_false_iff_ne]; exact h2
      have hd : decide ((k : Int) < 0) = false := decide_eq_false (by omega)
      have hkL : k ≤ L.length := by omega
      have hd2 : decide ((L.length : Int) < (k : Int)) = false := decide_eq_false (by omega)
      have hd2n : decide (L.length < k) = false := decide_eq_false (by omega)
      have w1 : IntKind.i64.wrap ((L.length : Int) - (k : Int)) = (L.length : Int) - (k : Int) := IntWalk.i64_in _ (by omega)
      have hd3 : decide ((L.length : Int) - (k : Int) < (O.length : Int)) = false := decide_eq_false (by omega)
      have w2 : IntKind.i64.wrap ((L.length : Int) - (O.length : Int)) = (L.length : Int) - (O.length : Int) := IntWalk.i64_in _ (by omega)
      have w3 : IntKind.i64.wrap ((L.length : Int) - (O.length : Int) + (N.length : Int)) = (L.length : Int) - (O.length : Int) + (N.length : Int) := IntWalk.i64_in _ (by clear w1 w2; omega)
      have hk0 : (0 : Int) ≤ (k : Int) := by omega
      have hkc : (k : Int) + (O.length : Int) ≤ (cap : Int) := by omega
      have hk3 : (k : Int) ≤ (k : Int) + (O.length : Int) := by omega
      have hk4 : ((k : Int) + (O.length : Int)).toNat = k + O.length := by omega
      have hk6 : (0 : Int) ≤ (k : Int) + (O.length : Int) := by omega
      have hk5 : IntKind.i64.wrap ((k : Int) + (O.length : Int)) = (k : Int) + (O.length : Int) := IntWalk.i64_in _ (by clear w1 w2 w3; omega)
      have hP := hL.piece (lo := k) (n := O.length) (by clear w1 w2 w3 hk5; omega) hc
      have hPl : ((L.drop k).take O.length).length = O.length := by clear w1 w2 w3 hk5; simp; omega
      obtain ⟨A1, hA1⟩ : ∃ A1, (if cap = k then a else a.map (fun x => x.add k)) = A1 := ⟨_, rfl⟩
      rw [hA1] at hP
      have HPL := Lib.hid hPl
      clear hPl
      have H3 := Lib.hid h3
      clear h2 h3
      go_enter Try.func75, Try.ntmps75
      go_wp2
      (refine wp_region_ovr (by kernel_rfl) (by kernel_rfl) ?_; (repeat (go_big_quiet_step ((go_at_call 114; exact quiet_ovr (same_at _ _ _ _ _ _ O _ HPL.out (by (repeat (first | assumption | refine LinesAt.ovr ?_ _ | refine LinesAt.alloc ?_ _ | refine LinesAt.drewN ?_ _ | refine LinesAt.drew ?_))) (by (repeat (first | assumption | refine LinesAt.ovr ?_ _ | refine LinesAt.alloc ?_ _ | refine LinesAt.drewN ?_ _ | refine LinesAt.drew ?_))) (by rw [HPL.out]; exact hOb) H3))))); refine wpQuiet_nil ?_; rintro _ ⟨zq, rfl⟩)
      go_wp2
      go_ret2
      exact ⟨⟨_, rfl, hend _⟩, by (repeat (first | with_reducible exact Below.refl _ _ | (with_reducible refine Below.setCell ?_ ?_ _; rotate_left; · (first | exact Nat.le_refl _ | assumption | omega | (simp; done) | (simp; omega))) | (with_reducible refine Below.alloc ?_ ?_ _; rotate_left; · (first | exact Nat.le_refl _ | assumption | omega | (simp; done) | (simp; omega))) | with_reducible refine below_ovr_of ?_ | with_reducible refine drew_below ?_ _ | with_reducible refine Below.drew ?_ | with_reducible assumption))⟩
  · exact rone_some a ao an cap co cn L O N k w hL hc hO hN hs h1 h2 h3 hy
end Go.Proofs.Ytnaceobbbfbhhaa
