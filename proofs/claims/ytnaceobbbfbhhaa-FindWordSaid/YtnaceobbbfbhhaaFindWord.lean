/- The walk of the law FindWord. Conditions: none beyond what it says. -/
import Derived.Test.YtnaceobbbfbhhaaFindLaws
import Derived.Test.YtnaceobbbfbhhaaRWord
import Derived.Deep.RegionHeld3
import Derived.OpenShut
namespace Go.Proofs.Ytnaceobbbfbhhaa
open Go.RowKit

set_option maxRecDepth 100000 in
set_option maxHeartbeats 4000000 in
theorem findWord_walk (a : Option Addr) (cap : Nat) (L : List ByteArray) (rl rc : Int) (sa : Int) (sb : Int) (W : World) (hL : LinesAt W a L) (hsa : 0 ≤ sa ∧ sa ≤ 65535) (hsb : 0 ≤ sb ∧ sb ≤ 65535) :
    Calls Try.prog 9 #[.slice a L.length cap, .agg #[.int .i64 rl, .int .i64 rc], .int .u16 sa, .int .u16 sb] W fun e W' => e = .returned (.bool true) ∧ Below W.heap.size W W' := by
  cases hli : textB L with
  | false =>
    go_enter Try.func9, Try.ntmps9
    go_wp2_with (first | (go_at_call 37; refine (known12_any _).mono ?_; rintro e w1 ⟨rfl, hbl⟩; obtain ⟨x, rfl⟩ := ovr_of_below hbl; clear hbl) | (go_at_call 35; refine (text_any _ _ L _ (by (repeat (first | assumption | refine LinesAt.ovr ?_ _ | refine LinesAt.alloc ?_ _ | refine LinesAt.drewN ?_ _ | refine LinesAt.drew ?_)))).mono ?_; rintro e w1 ⟨rfl, rfl⟩))
    go_ret
    exact ⟨rfl, by (repeat (first | exact Below.refl _ _ | refine Below.alloc ?_ (by first | exact Nat.le_refl _ | (simp; done) | (simp; omega)) _ | refine below_ovr_of ?_ | refine drew_below ?_ _ | refine Below.drew ?_ | refine Below.setCell ?_ (by first | exact Nat.le_refl _ | (simp; done) | (simp; omega)) _ | assumption))⟩
  | true =>
    obtain ⟨h0, hn, htot, _⟩ := text_spec hli
    obtain ⟨pl, pc, hsl, hsc, hp_pl⟩ := seat_facts (L := L) (x := sa) (y := sb) h0 hsa.1
    have HSLpl := Lib.hid hsl
    have HSCpl := Lib.hid hsc
    clear hsl hsc
    go_enter Try.func9, Try.ntmps9
    go_wp2_with (first | (go_at_call 37; refine (known12_any _).mono ?_; rintro e w1 ⟨rfl, hbl⟩; obtain ⟨x, rfl⟩ := ovr_of_below hbl; clear hbl) | (go_at_call 35; refine (text_any _ _ L _ (by (repeat (first | assumption | refine LinesAt.ovr ?_ _ | refine LinesAt.alloc ?_ _ | refine LinesAt.drewN ?_ _ | refine LinesAt.drew ?_)))).mono ?_; rintro e w1 ⟨rfl, rfl⟩))
    go_region_held3 (fun w' => W.heap.size < w'.heap.size ∧ w'.cell? ⟨W.heap.size, 0, none⟩ = some (.int .i64 rl) ∧ w'.cell? ⟨W.heap.size, 1, none⟩ = some (.int .i64 rc)) (go_split_ands <;> first | assumption | (simp [go_sem]; done) | (simp [go_sem, *]; done) | (simp [go_sem]; omega)) ((go_at_call 38; refine (seat_at _ _ L _ _ _ (by (repeat (first | assumption | refine LinesAt.ovr ?_ _ | refine LinesAt.alloc ?_ _ | refine LinesAt.drewN ?_ _ | refine LinesAt.drew ?_))) h0 hsa hsb HSLpl HSCpl).mono ?_; rintro e w1 ⟨rfl, hbl⟩; obtain ⟨x, rfl⟩ := ovr_of_below hbl; clear hbl))
    all_goals go_wp2
    refine name_block 27 rfl ?_
    intro W0 B0 hW hB
    rw [← hB]
    have hE : ∀ q : Nat, q < 2 → ∃ xl xc, W0.cell? ⟨B0, q * 2, none⟩ = some (.int .i64 xl) ∧ W0.cell? ⟨B0, q * 2 + 1, none⟩ = some (.int .i64 xc) := by
      intro q hq
      obtain rfl | rfl : q = 0 ∨ q = 1 := by omega
      · exact ⟨rl, rc, by subst hW hB; simp [go_sem], by subst hW hB; simp [go_sem]⟩
      · exact ⟨pl, pc, by subst hW hB; simp [go_sem], by subst hW hB; simp [go_sem]⟩
    have hL0 : LinesAt W0 a L := by rw [hW]; (repeat (first | assumption | refine LinesAt.ovr ?_ _ | refine LinesAt.alloc ?_ _ | refine LinesAt.drewN ?_ _ | refine LinesAt.drew ?_))
    have hbel : Below W.heap.size W W0 := by rw [hW]; (repeat (first | exact Below.refl _ _ | refine Below.alloc ?_ (by first | exact Nat.le_refl _ | (simp; done) | (simp; omega)) _ | refine below_ovr_of ?_ | refine drew_below ?_ _ | refine Below.drew ?_ | refine Below.setCell ?_ (by first | exact Nat.le_refl _ | (simp; done) | (simp; omega)) _ | assumption))
    have hszW := hbel.size
    have HE0 := Lib.hid hE
    clear hE hW
    clear hB
    go_loopw [29] (fun i wr => ∃ k : Nat, k ≤ 2 ∧ i = .int .i64 k ∧ ∃ x, wr = ovr W0 x) (fun i _ => 2 - (intOf i).toNat)
    case atStart => exact ⟨0, by omega, rfl, { W0 with heap := #[] }, by simp [ovr]⟩
    case round =>
      obtain ⟨i0, hk0, rfl, z0, rfl⟩ := hrel
      by_cases hlt0 : i0 < 2
      · obtain ⟨xl, xc, g0_0, g0_1⟩ := HE0.out i0 hlt0
        have lg0 := cell_lt9 g0_0
        have hI0 : (i0 : Int) < 2 := by omega
        obtain ⟨⟨⟨a1, b1⟩, s1, ok1⟩, hr⟩ : ∃ r, wordW L xl xc = r := ⟨_, rfl⟩
        have HR1 := Lib.hid hr
        clear hr
        go_wp2_with fail
        go_at_call 46; refine (pword_any _ _ L _ _ _ (by (repeat (first | assumption | refine LinesAt.ovr ?_ _ | refine LinesAt.alloc ?_ _ | refine LinesAt.drewN ?_ _ | refine LinesAt.drew ?_)))).mono ?_; rw [HR1.out]; rintro e w1 ⟨rfl, hbl⟩; obtain ⟨yy0, rfl⟩ := ovr_of_below hbl; clear hbl
        go_wp2_with fail
        go_at_call 47; refine (rword_any _ _ L _ _ _ (by (repeat (first | assumption | refine LinesAt.ovr ?_ _ | refine LinesAt.alloc ?_ _ | refine LinesAt.drewN ?_ _ | refine LinesAt.drew ?_)))).mono ?_; rw [HR1.out]; rintro e w1 ⟨rfl, hbl⟩; obtain ⟨yy1, rfl⟩ := ovr_of_below hbl; clear hbl
        go_wp2_with fail
        go_roundw
        case rel => exact ⟨i0 + 1, by omega, by go_num, ovr_of_below (by (repeat (first | exact Below.refl _ _ | refine Below.alloc ?_ (by first | exact Nat.le_refl _ | (simp; done) | (simp; omega)) _ | refine below_ovr_of ?_ | refine drew_below ?_ _ | refine Below.drew ?_ | refine Below.setCell ?_ (by first | exact Nat.le_refl _ | (simp; done) | (simp; omega)) _ | assumption)))⟩
        case measure => simp [intOf]; omega
      · have hI0 : ¬ (i0 : Int) < 2 := by omega
        go_wp2
        go_ret
        exact ⟨rfl, by (repeat (first | exact Below.refl _ _ | refine Below.alloc ?_ (by first | exact Nat.le_refl _ | (simp; done) | (simp; omega)) _ | refine below_ovr_of ?_ | refine drew_below ?_ _ | refine Below.drew ?_ | refine Below.setCell ?_ (by first | exact Nat.le_refl _ | (simp; done) | (simp; omega)) _ | assumption))⟩
end Go.Proofs.Ytnaceobbbfbhhaa
