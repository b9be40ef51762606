/- The walks of the laws of layer 5, more. Conditions: none beyond what each says. -/
import Derived.Test.YtjkilpnbaaiglaaKnown5
import Derived.Test.YtjkilpnbaaiglaaPos
namespace Go.Proofs.Ytjkilpnbaaiglaa
open Go.RowKit

set_option maxHeartbeats 1000000 in
theorem classClamps_walk (a : Option Addr) (cap : Nat) (L : List ByteArray) (l c : Int) (sx sy : Int) (past : Bool) (W : World) (hL : LinesAt W a L)
    (_hl : (Lit.int .i64 l).wf = true) (_hc : (Lit.int .i64 c).wf = true) (hx : 0 ≤ sx ∧ sx ≤ 255) (hy : 0 ≤ sy ∧ sy ≤ 255) :
    Calls Try.prog 4 #[.slice a L.length cap, .agg #[.int .i64 l, .int .i64 c], .int .u8 sx, .int .u8 sy, .bool past] W fun e W' => e = .returned (.bool true) ∧ Below W.heap.size W W' := by
  obtain ⟨hx0, hx1⟩ := hx
  obtain ⟨hy0, hy1⟩ := hy
  cases hli : lightB L with
  | false =>
    go_enter Try.func4, Try.ntmps4
    go_wp2_with (first
      | (go_at_call 15; refine (known5_any _).mono ?_; rintro e w1 ⟨rfl, hbl⟩; obtain ⟨x, rfl⟩ := ovr_of_below hbl; clear hbl)
      | (go_at_call 20; refine (light_any _ _ _ _ (by (repeat (first | assumption | refine LinesAt.ovr ?_ _ | refine LinesAt.alloc ?_ _ | refine LinesAt.drewN ?_ _ | refine LinesAt.drew ?_)))).mono ?_; rintro e w1 ⟨rfl, rfl⟩))
    go_ret
    exact ⟨rfl, by (repeat (first | exact Below.refl _ _ | refine Below.alloc ?_ (by first | exact Nat.le_refl _ | (simp [size_ovr]; done) | (simp [size_ovr]; omega)) _ | refine below_ovr_of ?_ | refine drew_below ?_ _ | refine Below.drew ?_ | refine Below.setCell ?_ (by first | exact Nat.le_refl _ | (simp [size_ovr]; done) | (simp [size_ovr]; omega)) _ | assumption))⟩
  | true =>
    obtain ⟨hn, htot, _⟩ := light_spec hli
    go_enter Try.func4, Try.ntmps4
    go_wp2_with (first
      | (go_at_call 15; refine (known5_any _).mono ?_; rintro e w1 ⟨rfl, hbl⟩; obtain ⟨x, rfl⟩ := ovr_of_below hbl; clear hbl)
      | (go_at_call 20; refine (light_any _ _ _ _ (by (repeat (first | assumption | refine LinesAt.ovr ?_ _ | refine LinesAt.alloc ?_ _ | refine LinesAt.drewN ?_ _ | refine LinesAt.drew ?_)))).mono ?_; rintro e w1 ⟨rfl, rfl⟩))
    refine name_world ?_
    intro W0 hW0
    have hE : ∀ k : Nat, k < 2 → ∃ ql qc, W0.cell? ⟨W.heap.size + 1 + x.heap.size + 1, k * 2, none⟩ = some (.int .i64 ql) ∧ W0.cell? ⟨W.heap.size + 1 + x.heap.size + 1, k * 2 + 1, none⟩ = some (.int .i64 qc) := by
      intro k hk
      obtain rfl | rfl : k = 0 ∨ k = 1 := by omega
      · exact ⟨l, c, by rw [hW0]; simp [go_sem], by rw [hW0]; simp [go_sem]⟩
      · exact ⟨sx % 50 - 3, sy % 60 - 3, by rw [hW0]; simp [go_sem], by rw [hW0]; simp [go_sem]⟩
    have hB : W.heap.size + 1 + x.heap.size + 1 < W0.heap.size := by rw [hW0]; simp [go_sem]
    have hL0 : LinesAt W0 a L := by rw [hW0]; (repeat (first | assumption | refine LinesAt.ovr ?_ _ | refine LinesAt.alloc ?_ _ | refine LinesAt.drewN ?_ _ | refine LinesAt.drew ?_))
    have hbel : Below W.heap.size W W0 := by rw [hW0]; (repeat (first | exact Below.refl _ _ | refine Below.alloc ?_ (by first | exact Nat.le_refl _ | (simp [size_ovr]; done) | (simp [size_ovr]; omega)) _ | refine below_ovr_of ?_ | refine drew_below ?_ _ | refine Below.drew ?_ | refine Below.setCell ?_ (by first | exact Nat.le_refl _ | (simp [size_ovr]; done) | (simp [size_ovr]; omega)) _ | assumption))
    have HE := Lib.hid hE
    clear hW0 hE
    go_loopw [33] (fun i wr => ∃ k : Nat, k ≤ 2 ∧ i = .int .i64 k ∧ ∃ x, wr = ovr W0 x) (fun i _ => 2 - (intOf i).toNat)
    case atStart => exact ⟨0, by omega, rfl, { W0 with heap := #[] }, by simp [ovr]⟩
    case round =>
      obtain ⟨k, hk, rfl, y, rfl⟩ := hrel
      by_cases hlt : k < 2
      · obtain ⟨ql, qc, g0, g1⟩ := HE.out k hlt
        have hkI : (k : Int) < 2 := by omega
        go_wp2_with (first
          | (go_at_call 21; refine (clamp_any _ _ _ _ _ _ _ (by (repeat (first | assumption | refine LinesAt.ovr ?_ _ | refine LinesAt.alloc ?_ _ | refine LinesAt.drewN ?_ _ | refine LinesAt.drew ?_)))).mono ?_; rintro e w1 ⟨rfl, hbl⟩; obtain ⟨x, rfl⟩ := ovr_of_below hbl; clear hbl))
        have hid := clampP_idem L ql qc past
        (refine wp_region_ovr (by kernel_rfl) (by kernel_rfl) ?_; (repeat (go_big_quiet_step (first | (go_at_call 22; exact quiet_ovr (rclamp_any _ _ _ _ _ _ _ (by (repeat (first | assumption | refine LinesAt.ovr ?_ _ | refine LinesAt.alloc ?_ _ | refine LinesAt.drewN ?_ _ | refine LinesAt.drew ?_))))) | (go_at_call 21; exact quiet_ovr (clamp_any _ _ _ _ _ _ _ (by (repeat (first | assumption | refine LinesAt.ovr ?_ _ | refine LinesAt.alloc ?_ _ | refine LinesAt.drewN ?_ _ | refine LinesAt.drew ?_)))))))); refine wpQuiet_nil ?_; rintro _ ⟨zq, rfl⟩)
        go_wp2
        go_roundw
        case rel => exact ⟨k + 1, by omega, by go_num, ovr_of_below (by (repeat (first | exact Below.refl _ _ | refine Below.alloc ?_ (by first | exact Nat.le_refl _ | (simp [size_ovr]; done) | (simp [size_ovr]; omega)) _ | refine below_ovr_of ?_ | refine drew_below ?_ _ | refine Below.drew ?_ | refine Below.setCell ?_ (by first | exact Nat.le_refl _ | (simp [size_ovr]; done) | (simp [size_ovr]; omega)) _ | assumption)))⟩
        case measure => simp [intOf]; omega
      · have hkI : ¬ (k : Int) < 2 := by omega
        go_wp2_with (first
          | (go_at_call 23; refine (size_any _ _ _ _ (by (repeat (first | assumption | refine LinesAt.ovr ?_ _ | refine LinesAt.alloc ?_ _ | refine LinesAt.drewN ?_ _ | refine LinesAt.drew ?_))) (by omega) (by omega)).mono ?_; rintro e w1 ⟨rfl, rfl⟩)
          | (go_at_call 24; refine (rsize_any _ _ _ _ (by (repeat (first | assumption | refine LinesAt.ovr ?_ _ | refine LinesAt.alloc ?_ _ | refine LinesAt.drewN ?_ _ | refine LinesAt.drew ?_))) (by omega) (by omega)).mono ?_; rintro e w1 ⟨rfl, rfl⟩))
        go_ret
        exact ⟨rfl, by (repeat (first | exact Below.refl _ _ | refine Below.alloc ?_ (by first | exact Nat.le_refl _ | (simp [size_ovr]; done) | (simp [size_ovr]; omega)) _ | refine below_ovr_of ?_ | refine drew_below ?_ _ | refine Below.drew ?_ | refine Below.setCell ?_ (by first | exact Nat.le_refl _ | (simp [size_ovr]; done) | (simp [size_ovr]; omega)) _ | assumption))⟩
end Go.Proofs.Ytjkilpnbaaiglaa
